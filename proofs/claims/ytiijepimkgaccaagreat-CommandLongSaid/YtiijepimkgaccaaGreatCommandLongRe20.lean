/- The contract of tx.isTwice. -/
import Derived.Test.YtiijepimkgaccaaGreatCommandLongRe19
set_option linter.unusedSimpArgs false
set_option linter.unusedVariables false
set_option maxRecDepth 100000
set_option maxHeartbeats 16000000
namespace Go.Proofs.YtiijepimkgaccaaGreat
open Go.RowKit Go.Shelf
def ptKV (x : List UInt8 × Int) : List Value := x.1.map B ++ [.int .i64 x.2]
def ptKA (x : List UInt8 × Int) : Value := .agg (ptKV x).toArray
def ptKO (x : List UInt8 × Int) : Prop := x.1.length = 32 ∧ I64 x.2
theorem ptKV_len {x : List UInt8 × Int} (h : ptKO x) : (ptKV x).length = 33 := by simp [ptKV, h.1]
theorem key_pt : WideMaps.KeyLaw Tryz.prog 56 := deep_law_laid laid_out' (m := 3) (by omega) (of_decide_eq_true (by kernel_rfl)) (by kernel_rfl) (by kernel_rfl)
theorem lits_pt (d : Nat) (x : List UInt8 × Int) (h : ptKO x) : ∃ l, Tryz.prog.keyLits (d + 3) 56 (ptKV x) = some l := by
 refine kl_struct Tryz.underlying56 _ _ (by rw [ptKV_len h, cells_point]) (by kernel_rfl) ?_;have e0 : (x.1.map B).length = 32 := by rw [List.length_map, h.1]
 intro f hf;simp only [List.mem_cons, List.not_mem_nil, or_false] at hf;rcases hf with rfl | rfl
 ·have : List.take 32 (List.drop 0 (ptKV x)) = x.1.map B := by unfold ptKV; rw [List.drop_zero, List.take_append_of_le_length (by omega), List.take_of_length_le (by omega)]
  simp only [cells_id, this]; exact lits_id _ _ h.1
 ·have : List.take 1 (List.drop 32 (ptKV x)) = [.int .i64 x.2] := by unfold ptKV; rw [List.drop_append_of_le_length (by omega), List.drop_of_length_le (by omega)]; rfl
  simp only [cells_int, this]; exact kl_int Tryz.underlying3 _ _ h.2.wf
theorem keyOf_ptK (x : List UInt8 × Int) (h : ptKO x) : ∃ l, keyOf Tryz.prog 56 (ptKA x) = some l := by
 obtain ⟨n4, hn4⟩ := types_3;exact keyOf_ex (by kernel_rfl) (by kernel_rfl) (ptKV x) (by rw [ptKV_len h, cells_point]) (by rw [hn4]; exact lits_pt (n4 + 1) _ h)
theorem map_B_injT : ∀ {a b : List UInt8}, a.map B = b.map B → a = b
 | [], [], _ => rfl
 | [], _ :: _, h => by simp at h
 | _ :: _, [], h => by simp at h
 | x :: a, y :: b, h => by
  simp only [List.map_cons, List.cons.injEq] at h;have h1 : x = y := by have := h.1; unfold B at this; exact b8_inj (by injection this)
  rw [h1, map_B_injT h.2]
theorem ptKA_inj {x y : List UInt8 × Int} (hx : x.1.length = 32) (hy : y.1.length = 32) (h : ptKA x = ptKA y) : x = y := by
 unfold ptKA at h;have h2 : ptKV x = ptKV y := by simpa using h
 unfold ptKV at h2;have h3 := List.append_inj h2 (by simp [hx, hy]);exact Prod.ext (map_B_injT h3.1) (by simpa using h3.2)
def encP (L : List (List UInt8 × Int)) : List (Value × Value) := L.map fun x => (ptKA x, .int .i64 1)
structure SeenAt (w : World) (b : Nat) (L : List (List UInt8 × Int)) : Prop where
 map : ∃ es clock, w.heap[b]? = some (.map es clock) ∧ MapOK Tryz.prog 56 es clock ∧ kvs es = encP L
 ok : ∀ x ∈ L, ptKO x
 nodup : L.Nodup
theorem SeenAt.lt {w : World} {b : Nat} {L : List (List UInt8 × Int)} (h : SeenAt w b L) : b < w.heap.size := by
 obtain ⟨es, clock, h3, _⟩ := h.map;exact (Array.getElem?_eq_some_iff.1 h3).1
theorem SeenAt.grow {w w' : World} {b : Nat} {L : List (List UInt8 × Int)} (h : SeenAt w b L) (k : Grow w w') : SeenAt w' b L := by
 have hl := h.lt;obtain ⟨es, clock, h3, h4⟩ := h.map;exact ⟨⟨es, clock, (k.block b hl).trans h3, h4⟩, h.ok, h.nodup⟩
section
variable {P : Program} {w : World} {t k e : TypeId} {es : Array MapEntry} {clock b : Nat} {x : Value} {lx : Lit}
theorem run_lookup1_no (K : WideMaps.KeyLaw P k) (ht : P.underlying t = some (.map k e)) (hb : w.heap[b]? = some (.map es clock)) (h : MapOK P k es clock) (hx : keyOf P k x = some lx) (hno : ∀ p ∈ kvs es, p.1 ≠ x)
  {z : Value} (hz : ∀ w, (zeroValue e).run P w = .ok z w) : (Instr.lookup t (.map (some b)) x false).run P w = .ok z w := by
 simp [Instr.lookup, run_underlying ht, MapKept.run_getObj_map hb, K.check w _ hx, h.find_no K hx hno w, hz]
theorem run_lookup1_yes (K : WideMaps.KeyLaw P k) (ht : P.underlying t = some (.map k e)) (hb : w.heap[b]? = some (.map es clock)) (h : MapOK P k es clock) (hx : keyOf P k x = some lx) {j : Nat} {en : MapEntry} (hj : es[j]? = some en) (hk : en.key = x) :
  (Instr.lookup t (.map (some b)) x false).run P w = .ok en.val w := by
 simp [Instr.lookup, run_underlying ht, MapKept.run_getObj_map hb, K.check w _ hx, h.find_yes K hx hj hk w]
end
theorem zeroV_int (w : World) : (zeroValue 3).run Tryz.prog w = .ok (.int .i64 0) w := by kernel_rfl
theorem SeenAt.none {w : World} {b : Nat} {L : List (List UInt8 × Int)} (h : SeenAt w b L) {x : List UInt8 × Int} (hx : ptKO x) (hno : x ∉ L) {es : Array MapEntry} {clock : Nat} (h3 : w.heap[b]? = some (.map es clock)) : ∀ p ∈ kvs es, p.1 ≠ ptKA x := by
 obtain ⟨es', clock', h3', _, h5⟩ := h.map;rw [h3] at h3';injection h3' with h3'
 injection h3' with e1 e2
 subst e1;intro p hp e;rw [h5] at hp;obtain ⟨y, hy, rfl⟩ := List.mem_map.1 hp;have := ptKA_inj (h.ok y hy).1 hx.1 e;subst this;exact hno hy
theorem SeenAt.look {w : World} {b : Nat} {L : List (List UInt8 × Int)} (h : SeenAt w b L) {x : List UInt8 × Int} (hx : ptKO x) : (Instr.lookup 157 (.map (some b)) (ptKA x) false).run Tryz.prog w = .ok (.int .i64 (if x ∈ L then 1 else 0)) w := by
 obtain ⟨lx, hlx⟩ := keyOf_ptK x hx;obtain ⟨es, clock, h3, h4, h5⟩ := h.map;by_cases hm : x ∈ L
 ·rw [if_pos hm];obtain ⟨j, hj, hje⟩ := List.getElem_of_mem hm;have e1 : (kvs es)[j]? = some (ptKA x, .int .i64 1) := by rw [h5]; unfold encP; rw [List.getElem?_map, List.getElem?_eq_getElem hj, hje]; rfl
  unfold kvs at e1;rw [List.getElem?_map] at e1;obtain ⟨en, he, e2⟩ := Option.map_eq_some_iff.1 e1;have he' : es[j]? = some en := by simpa using he
  have := run_lookup1_yes key_pt Tryz.underlying157 h3 h4 hlx he' (by injection e2);injection e2 with e3 e4
  rw [e4] at this;exact this
 ·rw [if_neg hm];exact run_lookup1_no key_pt Tryz.underlying157 h3 h4 hlx (h.none hx hm h3) zeroV_int
def seenC (w0 : World) (b : Nat) (es : Array MapEntry) (clock : Nat) (x : List UInt8 × Int) : Nat → World → Prop
 | 0, w => w0.grownBy w (some b) ∧ w.heap[b]? = some (.map es clock)
 | 1, w => w0.grownBy w (some b) ∧ w.heap[b]? = some (.map (es.push { key := ptKA x, val := .int .i64 0, born := clock }) (clock + 1))
 | _ + 2, w => w0.grownBy w (some b) ∧ w.heap[b]? = some (.map ((es.push { key := ptKA x, val := .int .i64 0, born := clock }).modify es.size fun e => { e with val := .int .i64 1 }) (clock + 1))
section
variable {w0 w : World} {b : Nat} {es : Array MapEntry} {clock : Nat} {x : List UInt8 × Int} {lx : Lit}
theorem seenC.low : ∀ k w, seenC w0 b es clock x k w → w0.grownBy w (some b)
 | 0, w, h => h.1
 | 1, w, h => h.1
 | _ + 2, w, h => h.1
theorem seenC.entry (h : seenC w0 b es clock x 0 w) : seenC w0 b es clock x 1 (withBlk w b (.map (es.push { key := ptKA x, val := .int .i64 0, born := clock }) (clock + 1))) :=
 ⟨grownBy_trans h.1 (withBlk_grown _ _ _), withBlk_heap h.2⟩
theorem seenC.fill (h : seenC w0 b es clock x 1 w) : seenC w0 b es clock x 2 (withBlk w b (.map ((es.push { key := ptKA x, val := .int .i64 0, born := clock }).modify es.size fun e => { e with val := .int .i64 1 }) (clock + 1))) :=
 ⟨grownBy_trans h.1 (withBlk_grown _ _ _), withBlk_heap h.2⟩
theorem seenC.run0 (h : seenC w0 b es clock x 0 w) (hm : MapOK Tryz.prog 56 es clock) (hx : keyOf Tryz.prog 56 (ptKA x) = some lx) (hno : ∀ q ∈ kvs es, q.1 ≠ ptKA x) :
  (Instr.mapEntry 157 (.map (some b)) (ptKA x)).run Tryz.prog w = .ok (.tuple #[.int .i64 0, goInt clock]) (withBlk w b (.map (es.push { key := ptKA x, val := .int .i64 0, born := clock }) (clock + 1))) :=
 run_mapEntry_no key_pt Tryz.underlying157 h.2 hm hx hno zeroV_int
theorem seenC.run1 (h : seenC w0 b es clock x 1 w) (hm : MapOK Tryz.prog 56 es clock) (hx : keyOf Tryz.prog 56 (ptKA x) = some lx) (hno : ∀ q ∈ kvs es, q.1 ≠ ptKA x) :
  (Instr.entryStore 157 (.map (some b)) (.int .i64 clock) (.int .i64 1)).run Tryz.prog w = .ok () (withBlk w b (.map ((es.push { key := ptKA x, val := .int .i64 0, born := clock }).modify es.size fun e => { e with val := .int .i64 1 }) (clock + 1))) :=
 run_entryStore Tryz.underlying157 h.2 (hm.push hx hno _) (j := es.size) (en := { key := ptKA x, val := .int .i64 0, born := clock }) (by simp) (.int .i64 1)
theorem seenC.look (hm : MapOK Tryz.prog 56 es clock) (hx : keyOf Tryz.prog 56 (ptKA x) = some lx) (hno : ∀ q ∈ kvs es, q.1 ≠ ptKA x) :
  ∀ k w, k ≤ 1 → seenC w0 b es clock x k w → (Instr.lookup 157 (.map (some b)) (ptKA x) false).run Tryz.prog w = .ok (.int .i64 0) w
 | 0, w, _, h => run_lookup1_no key_pt Tryz.underlying157 h.2 hm hx hno zeroV_int
 | 1, w, _, h => run_lookup1_yes key_pt Tryz.underlying157 h.2 (hm.push hx hno _) hx (j := es.size) (en := { key := ptKA x, val := .int .i64 0, born := clock }) (by simp) rfl
 | _ + 2, w, hk, h => by omega
theorem seenC.done {L : List (List UInt8 × Int)} (h : seenC w0 b es clock x 2 w) (hm : MapOK Tryz.prog 56 es clock) (hx : keyOf Tryz.prog 56 (ptKA x) = some lx) (hno : ∀ q ∈ kvs es, q.1 ≠ ptKA x) (hL : kvs es = encP L) (hok : ∀ y ∈ L, ptKO y) (hxo : ptKO x) (hnd : L.Nodup) (hnm : x ∉ L) :
  SeenAt w b (L ++ [x]) := by
 refine ⟨⟨_, _, h.2, (hm.push hx hno _).modify _ _, ?_⟩, fun y hy => ?_, ?_⟩
 ·rw [kvs_modify (en := { key := ptKA x, val := .int .i64 0, born := clock }) (by simp), kvs_push, hL];have : es.size = (encP L).length := by rw [← hL, kvs_length]
  rw [this];simp [encP]
 ·rcases List.mem_append.1 hy with h | h
  ·exact hok y h
  ·rw [List.mem_singleton.1 h]; exact hxo
 ·rw [List.nodup_append];exact ⟨hnd, by simp, fun a ha c hc e => by rw [List.mem_singleton.1 hc] at e; subst e; exact hnm ha⟩
end
section
variable {P : Program} {C : Nat → World → Prop} {M : List Nat} {R : List (Nat × Nat)} {ops : Array Oper} {Q : Act → Prop} {rest : List Oper} {i : Nat} {a : Act} {o : Oper}
theorem ph_loadm {T : TypeId} {x : Operand} {n b off : Nat} {cs : List Value} (hM : M.contains i = false) (hw : Region.wanted o (yielded ops a.tmps) = true) (ho : o.op = .load T x) (hT : RowT P T n)
  (hb : ∀ k, phLo R i ≤ k → k ≤ phHi R i → ∀ w, C k w → ∀ j u, cs[j]? = some u → w.cell? ⟨b, off + j, none⟩ = some u) (hx : a.eval x = .pointer (some ⟨b, off, none⟩)) (hn : cs.length = n)
  (hk : ∀ K : Act → Prop, (∀ a, wpPhase P C M R ops Q rest (i + 1) a → K a) → K (a.put o.dst (.agg cs.toArray))) : wpPhase P C M R ops Q (o :: rest) i a := by
 refine ph_value hM hw (fun k h1 h2 w hC => ?_) hk;obtain ⟨d, hu, hd, hi⟩ := hT;have hrun := run_loadVar_mid (P := P) w b off T cs d (hb k h1 h2 w hC) hu (by cases d <;> simp_all) (by rw [hi, hn]);unfold execOp;simp only [ho, hx, Instr.loadAt, Instr.sureAddr, Sem.run_bind, Sem.run_pure, Result.andThen_ok, hrun]
end
end Go.Proofs.YtiijepimkgaccaaGreat
namespace Go.Proofs.YtiijepimkgaccaaGreat
open Go.RowKit Go.Shelf
theorem pt_cells {w : World} {g : Nat} {i : Inp} {v : Value} (hb : Blk w g 58 (inV v i)) (hk : i.ok) : ∀ (j : Nat) (u : Value), (ptKV i.pt)[j]? = some u → w.cell? ⟨g, 0 + j, none⟩ = some u := by
 intro j u hu;refine hb.at_ (i := 0 + j) ?_;rw [Nat.zero_add];have e : inV v i = ptKV i.pt ++ [.int .u64 i.amount, v] := by simp [inV, ptKV, Inp.pt]
 rw [e, List.getElem?_append_left (List.getElem?_eq_some_iff.1 hu).1]; exact hu
theorem istwice_any {A : Option Addr} {n c : Nat} {A2 : Option Addr} {n2 c2 : Nat} {fee ex : Int} {l : List (Value × Inp)} {os : List Outp} (w : World) (hi : InsAt w A n c l) (hn : n ≤ 1000000) :
  Calls Tryz.prog 81 #[.agg (txV A n c A2 n2 c2 fee ex).toArray] w fun e w' => e = .returned (.bool (twiceT ⟨l.map Prod.snd, os, fee, ex⟩)) ∧ Grow w w' := by
 have HI := kp hi;have HTC := kp (txV_cl (A := A) (n := n) (c := c) (A2 := A2) (n2 := n2) (c2 := c2) (fee := fee) (ex := ex));have HT0 := kq ((txV A n c A2 n2 c2 fee ex)[0]? = some (.slice A n c)) rfl;obtain ⟨tv, htv⟩ := xe (txV A n c A2 n2 c2 fee ex);rw [← htv] at HTC HT0 ⊢;obtain ⟨ps, hps⟩ := xe ((l.map Prod.snd).map Inp.pt);have HPS := kp hps;have HTW := kq (twiceT ⟨l.map Prod.snd, os, fee, ex⟩ = !decide ps.Nodup) (by rw [hps]; rfl);rw [HTW.o];have hmm : ∀ w, (Instr.makeMap 157 none).run Tryz.prog w = .ok (.map (some w.heap.size)) (w.alloc (.map #[] 0)) := fun w => rfl
 obtain ⟨w_, hw⟩ := xe w;have HB := kq (Below w.heap.size w w_) (by rw [hw]; exact Below.refl _ _)
 suffices H : Calls Tryz.prog 81 #[.agg tv.toArray] w_ fun e w' => e = .returned (.bool (!decide ps.Nodup)) ∧ Grow w w' by rw [hw] at H; exact H
 clear hw hi htv hps
 go_enter Tryz.func81, Tryz.ntmps81
 go_wp2_with (with_reducible refine wbx 1 ?_);intro v_ b_ y_ hsz2_;have HX_ := kp (at_mk b_ HTC.o.len);clear b_ hsz2_;have HG_ := kp HB.o.size;replace HB := kp (HB.o.grow' y_);generalize hg_ : w_.heap.size = g1 at HX_ HG_ ⊢;clear hg_;have HX_g := HG_;clear HG_;have HX := HX_;clear y_ HX_;try clear w_
 rename World => w_
 go_upto_region 2 with fail
 generalize hw_ : World.alloc w_ _ = v_;obtain ⟨b, hb⟩ := xe w_.heap.size;have HSN := kq (SeenAt v_ b []) ⟨⟨#[], 0, by rw [← hw_, hb]; exact heap_alloc_new _ _, MapOK.empty _ _ _, rfl⟩, by simp, by simp⟩;have y_ : Grow w_ v_ := by rw [← hw_]; exact (Below.refl _ _).alloc (Nat.le_refl _) _
 have HBG := kq (w.heap.size ≤ b) (by rw [hb]; exact HB.o.size);rw [← hb];replace HX := kp (HX.o.grow y_);replace HB := kp (HB.o.grow' y_);clear hw_ hb y_ hmm;try clear w_
 rename World => w_;have c0 := HX.o.blk.at_ HT0.o;go_wp2_with fail;go_loopw [10] (fun iv wr => ∃ k : Nat, k ≤ n ∧ iv = .int .i64 k ∧ Hid (SeenAt wr b (ps.take k) ∧ Below w.heap.size w wr)) (fun iv _ => n - (intOf iv).toNat)
 case atStart => exact ⟨0, by omega, rfl, kp ⟨HSN.o, HB.o⟩⟩
 case round =>
  obtain ⟨k, hk, rfl, hI⟩ := hrel;clear HB HSN HX c0;have HSN := kp hI.o.1; have HB := kp hI.o.2;clear hI;rename World => w_;by_cases hlt : k < n
  ·have HII := kp (HI.o.grow HB.o);obtain ⟨b0, off, p, rfl, hp, hok, hc⟩ := HII.o.at_ hlt;have HC := kp hc;have HPC := kp (inV_cl hok);have HOK := kp hok.2;have HPK := kq (ptKO p.2.pt) ⟨hok.2.1, hok.2.2.1⟩;have HPV := kq (ps[k]? = some p.2.pt) (by rw [HPS.o, List.getElem?_map, List.getElem?_map, hp]; rfl);have HPT := kp (fun (w : World) (g : Nat) (h : Blk w g 58 (inV p.1 p.2)) => pt_cells h hok.2);obtain ⟨pv, hpv⟩ := xe (inV p.1 p.2);rw [← hpv] at HC HPC HPT;obtain ⟨x, hx⟩ := xe p.2.pt;rw [← hx] at HPK HPV HPT;have HXL := kp (ptKV_len HPK.o);clear hp hok hc hpv hx HII;go_wp2_with (with_reducible first | refine wlm 13 row_tin HC.o HPC.o.len ?_ | refine wal 5 zero_tin ?_);intro w1_ hb1_ hbw1_ hsz1_;have HB1_ := kp (at_mk hb1_ len_tin);have HBW1_ := kp hbw1_;have HZ1_ := kp hsz1_;clear hb1_ hbw1_ hsz1_;go_wp2_with (with_reducible refine wsb row_tin HB1_.o.blk HB1_.o.len HPC.o.len HPC.o.one ?_);intro v_ b_ g_ hsz2_;have y_ := var_grow HBW1_.o HZ1_.o g_;have HX_ := kp (at_mk b_ HPC.o.len);clear b_ g_ hsz2_ HB1_ HBW1_ HZ1_;replace HB := kp (HB.o.grow' y_);replace HSN := kp (HSN.o.grow y_);generalize hg_ : w_.heap.size = g5 at HX_ ⊢;clear hg_;have HE := HX_;clear y_ HX_;clear w1_;try clear w_
   rename World => w_;have HPM := kp (HPT.o _ _ HE.o.blk);have hlk := HSN.o.look HPK.o;unfold ptKA at hlk;by_cases hm : x ∈ ps.take k
   ·have HND := kp (show decide ps.Nodup = false by
     rw [decide_eq_false_iff_not];intro hnd;obtain ⟨j, hj, he⟩ := List.getElem_of_mem hm;rw [List.getElem_take] at he;rw [List.length_take] at hj;have hk2 := (List.getElem?_eq_some_iff.1 HPV.o).2;have := (List.getElem_inj hnd (h₀ := by omega) (h₁ := (List.getElem?_eq_some_iff.1 HPV.o).1)).1 (he.trans hk2.symm)
     omega)
    rw [if_pos hm] at hlk;clear hm;go_wp2_with (with_reducible refine wlm 16 row_point HPM.o HXL.o ?_);go_ret
    exact ⟨by rw [HND.o]; rfl, HB.o⟩
   ·rw [if_neg hm] at hlk;have HNM := kp hm;clear hm;go_wp2_with (with_reducible refine wlm 16 row_point HPM.o HXL.o ?_);obtain ⟨es, clock, h3, h4, h5⟩ := HSN.o.map;obtain ⟨lx, hlx⟩ := keyOf_ptK x HPK.o
    have HGB := kp (show g5 ≠ b from fun e => by
     have h6 := HE.o.blk;unfold Blk at h6;rw [e, h3] at h6
     cases h6)
    have HM3 := kp h3;have HNO := kp (HSN.o.none HPK.o HNM.o h3);have HDN := kp (fun w3 h => seenC.done (w0 := w_) (b := b) (w := w3) h h4 hlx HNO.o h5 HSN.o.ok HPK.o HSN.o.nodup HNM.o);have HLO := kp (fun k w hk h => seenC.look (w0 := w_) (b := b) h4 hlx HNO.o k w hk h);have HR0 := kp (fun w h => seenC.run0 (w0 := w_) (b := b) (w := w) h h4 hlx HNO.o);have HR1 := kp (fun w h => seenC.run1 (w0 := w_) (b := b) (w := w) h h4 hlx HNO.o);unfold ptKA at HLO HR0 HR1;clear h3 h4 h5 hlx hlk;repeat' (first | (with_reducible refine wp_phase (id := 7) (seenC w_ b es clock x) [5, 7] [(0,2),(0,2),(0,2),(0,1),(0,2),(0,0),(0,2),(1,1)] (by kernel_rfl) (by kernel_rfl) ?_ ?_) | go_values | go_skip | go_guarded | go_step | go_upon | go_back)
    ·exact ⟨grown_of_below (Drawn.all (Drawn.one w_)) _, HM3.o⟩
    refine ph_value rfl (by first | rfl | go_simp) (fun k_ _ _ w_ hC_ => by first | (go_simp; rfl) | (go_simp; done) | rfl) (fun K hK => ?_);go_simp;refine hK _ ?_;clear hK K;refine ph_value rfl (by first | rfl | go_simp) (fun k_ _ _ w_ hC_ => by first | (go_simp; rfl) | (go_simp; done) | rfl) (fun K hK => ?_);go_simp;refine hK _ ?_;clear hK K;refine ph_loadm rfl rfl rfl row_point (fun k _ _ w h => HPT.o w g5 (Blk.grown HE.o.blk (seenC.low k w h) (fun e => HGB.o (Option.some.inj e)))) rfl HXL.o ?_
    (intro K hK; go_simp; refine hK _ ?_; clear hK K)
    refine ph_value rfl (by first | rfl | go_simp) (fun k_ h1_ h2_ w_ hC_ => by have c1 := HLO.o k_ w_ (Nat.le_trans h2_ (by decide)) hC_; first | (go_simp; rfl) | (go_simp; done) | rfl) (fun K hK => ?_);go_simp;refine hK _ ?_;clear hK K;refine ph_value rfl (by first | rfl | go_simp) (fun k_ _ _ w_ hC_ => by first | (go_simp; rfl) | (go_simp; done) | rfl) (fun K hK => ?_);go_simp;refine hK _ ?_;clear hK K;refine ph_run 0 rfl rfl rfl (by first | rfl | go_simp) (fun w' hC => ⟨_, by (have hrun := HR0.o w' hC); first | (go_simp; rfl) | (go_simp; exact ⟨rfl, rfl⟩) | go_simp, hC.entry⟩) ?_
    (intro K hK; go_simp; refine hK _ ?_; clear hK K)
    refine ph_value rfl (by first | rfl | go_simp) (fun k_ _ _ w_ hC_ => by first | (go_simp; rfl) | (go_simp; done) | rfl) (fun K hK => ?_);go_simp;refine hK _ ?_;clear hK K;refine ph_runs 1 rfl rfl rfl (by first | rfl | go_simp) (fun w' hC => ⟨_, by (have hrun := HR1.o w' hC); (have hw1 : IntKind.i64.wrap 1 = 1 := by decide); first | (go_simp; rfl) | (go_simp; exact ⟨rfl, rfl⟩) | go_simp, hC.fill⟩) ?_
    (intro K hK; go_simp; refine hK _ ?_; clear hK K)
    refine ph_nil ?_;intro w3 h3;have HS3 := kq (SeenAt w3 b (ps.take (k + 1))) (by rw [take_snoc HPV.o]; exact HDN.o w3 h3);have HB3 := kp (put_below HB.o HBG.o (seenC.low 2 w3 h3));clear h3;go_wp2_with fail;go_roundw
    case rel => exact ⟨k + 1, by omega, by go_num, kp ⟨HS3.o, HB3.o⟩⟩
    case measure => simp [intOf]; omega
  ·obtain rfl : k = n := by omega
   have HND := kp (show decide ps.Nodup = true by
    rw [decide_eq_true_iff];have h := HSN.o.nodup;rw [List.take_of_length_le (by rw [HPS.o, List.length_map, List.length_map]; have := HI.o.2.2.1; omega)] at h
    exact h)
   go_wp2_with fail;go_ret
   exact ⟨by rw [HND.o]; rfl, HB.o⟩
theorem OwnU.sl {w : World} {base n c : Nat} {A : Option Addr} {zs : List Value} (h : OwnU w base A n c zs) : Sl w w.heap.size 1 A n zs := Sl.of_own h
theorem tcheck_any {A : Option Addr} {n c : Nat} {A2 : Option Addr} {n2 c2 : Nat} {fee ex : Int} {l : List (Value × Inp)} {os : List Outp} (w : World) (hi : InsAt w A n c l) (ho : OutsAt w A2 n2 c2 os) (hn : n ≤ 100000) (hn2 : n2 ≤ 100000) (hf : U64 fee) (hex : I64 ex) :
  Calls Tryz.prog 50 #[.agg (txV A n c A2 n2 c2 fee ex).toArray] w fun e w' => e = .returned (.int .i64 (checkT ⟨l.map Prod.snd, os, fee, ex⟩)) ∧ Grow w w' := by
 have HI := kp hi; have HO := kp ho;have HTC := kp (txV_cl (A := A) (n := n) (c := c) (A2 := A2) (n2 := n2) (c2 := c2) (fee := fee) (ex := ex));have HT2 := kq ((txV A n c A2 n2 c2 fee ex)[2]? = some (.int .u64 fee)) rfl;have HAM := kp (fun w hi ho => amounts_any (A := A) (n := n) (c := c) (A2 := A2) (n2 := n2) (c2 := c2) (fee := fee) (ex := ex) (l := l) (os := os) w hi ho (by omega) (by omega));have HLG := kp (fun w hi => islong_any (A := A) (n := n) (c := c) (A2 := A2) (n2 := n2) (c2 := c2) (fee := fee) (ex := ex) (l := l) (os := os) w hi ho.2.2.1 (by omega) (by omega) hex);have HTW := kp (fun w hi => istwice_any (A := A) (n := n) (c := c) (A2 := A2) (n2 := n2) (c2 := c2) (fee := fee) (ex := ex) (l := l) (os := os) w hi (by omega));obtain ⟨t, ht⟩ := xe (Txn.mk (l.map Prod.snd) os fee ex);obtain ⟨lg, hlg⟩ := xe (longT t);obtain ⟨tw, htw⟩ := xe (twiceT t);rw [← ht, ← hlg] at HLG;rw [← ht, ← htw] at HTW;have e1 : t.ins.map Inp.amount = amI l := by rw [ht]; simp [amI]
 have e2 : t.outs.map Outp.amount = amO os := by rw [ht]; rfl
 have e3 : t.fee = fee := by rw [ht]
 have HP1 := kq (∀ z ∈ amI l, 0 ≤ z) (fun z hz => by obtain ⟨p, hp, rfl⟩ := List.mem_map.1 hz; exact (hi.2.1 p hp).2.2.2.1)
 have HP2 := kp (show ∀ z ∈ amO os ++ [fee], 0 ≤ z from fun z hz => by
  rcases List.mem_append.1 hz with h | h
  ·obtain ⟨p, hp, rfl⟩ := List.mem_map.1 h; exact (ho.2.1 p hp).2.1
  ·rw [List.mem_singleton.1 h]; exact hf.1)
 obtain ⟨z1, hz1⟩ := xe ((amI l).contains 0);obtain ⟨z2, hz2⟩ := xe ((amO os).contains 0);have HC1 := kp (fun (A : Option Addr) (c : Nat) w hs => contains64_any (A := A) (n := n) (c := c) (zs := amI l) (x := 0) w hs (by omega));have HC2 := kp (fun (A : Option Addr) (c : Nat) w hs => contains64_any (A := A) (n := n2) (c := c) (zs := amO os) (x := 0) w hs (by omega));have HA1 := kp (fun (A : Option Addr) (c : Nat) w hs => all_any A n c (amI l) w hs (by omega) HP1.o);have HA2 := kp (fun (A : Option Addr) (c : Nat) w hs => all_any A (n2 + 1) c (amO os ++ [fee]) w hs (by omega) HP2.o);rw [← hz1] at HC1;rw [← hz2] at HC2;obtain ⟨s1, hs1⟩ := xe ((allE 0 (amI l)).1);obtain ⟨r1, hr1⟩ := xe ((allE 0 (amI l)).2);obtain ⟨s2, hs2⟩ := xe ((allE 0 (amO os ++ [fee])).1);obtain ⟨r2, hr2⟩ := xe ((allE 0 (amO os ++ [fee])).2);rw [← hs1, ← hr1] at HA1;rw [← hs2, ← hr2] at HA2
 have HCK := kp (show checkT t = if lg = true then 4 else if tw = true then 7 else if (z1 || z2) = true then 8 else if r1 ≠ 0 then r1 else if r2 ≠ 0 then r2 else if s1 ≠ s2 then 9 else 0 by
  unfold checkT zeroT
  rw [e1, e2, e3, ← hlg, ← htw, ← hz1, ← hz2, ← hs1, ← hr1, ← hs2, ← hr2])
 rw [← ht];obtain ⟨ck, hck⟩ := xe (checkT t);rw [← hck] at HCK ⊢;have HZ := kq (((amO os ++ [fee]).map (Value.int .u64)) = (amO os).map (Value.int .u64) ++ [.int .u64 fee]) (by simp);obtain ⟨tv, htv⟩ := xe (txV A n c A2 n2 c2 fee ex);rw [← htv] at HTC HT2 HAM HLG HTW ⊢;obtain ⟨xs1, hx1⟩ := xe ((amI l).map (Value.int .u64));obtain ⟨xs2, hx2⟩ := xe ((amO os).map (Value.int .u64));rw [← hx1, ← hx2] at HAM;rw [← hx1] at HC1 HA1;rw [← hx2] at HC2 HZ;obtain ⟨xs3, hx3⟩ := xe ((amO os ++ [fee]).map (Value.int .u64));rw [← hx3] at HA2 HZ;obtain ⟨w_, hw⟩ := xe w;have HB := kq (Below w.heap.size w w_) (by rw [hw]; exact Below.refl _ _)
 suffices H : Calls Tryz.prog 50 #[.agg tv.toArray] w_ fun e w' => e = .returned (.int .i64 ck) ∧ Grow w w' by rw [hw] at H; exact H
 clear hw hi ho ht hlg htw e1 e2 e3 hz1 hz2 hs1 hr1 hs2 hr2 hck htv hx1 hx2 hx3 hf hex
 go_enter Tryz.func50, Tryz.ntmps50
 go_wp2_with (with_reducible refine wbx 1 ?_);intro v_ b_ y_ hsz2_;have HX_ := kp (at_mk b_ HTC.o.len);clear b_ hsz2_;have HG_ := kp HB.o.size;replace HB := kp (HB.o.grow' y_);generalize hg_ : w_.heap.size = g1 at HX_ HG_ ⊢;clear hg_;have HX_g := HG_;clear HG_;have HX := HX_;clear y_ HX_;try clear w_
 rename World => w_;go_wp2_with (with_reducible refine wlb 9 row_tx HX.o.blk HX.o.len ?_);refine (HAM.o _ (HI.o.grow HB.o) (HO.o.grow HB.o)).mono ?_;rintro e v_ ⟨A3, c3, A4, c4, rfl, hu1, hu2, y_⟩;have HU1 := kp hu1;have HU2 := kq (OwnU v_ w_.heap.size A4 n2 c4 xs2) hu2;have HGB := kq (w.heap.size ≤ w_.heap.size ∧ g1 < w_.heap.size) ⟨HB.o.size, HX.o.lt⟩;obtain ⟨b4, hb4⟩ := xe w_.heap.size;have HSB := kq (SzG v_ w_.heap.size) y_.size;rw [← hb4] at HU1 HU2 HGB HSB;have HX1 := kp (HX.o.grow y_);clear hu1 hu2 hb4;clear HX;have HX := HX1;clear HX1;replace HB := kp (HB.o.grow' y_);clear y_;try clear w_
 rename World => w_;go_wp2_with (with_reducible refine wlb 14 row_tx HX.o.blk HX.o.len ?_);refine (HLG.o _ (HI.o.grow HB.o)).mono ?_;rintro e w_ ⟨rfl, y_⟩;replace HB := kp (HB.o.grow' y_);replace HX := kp (HX.o.grow y_);replace HU1 := kp (HU1.o.grow y_);replace HU2 := kp (HU2.o.grow y_);replace HSB := kp (HSB.o.grow y_);clear y_;cases lg with
 | true =>
  go_wp2_with fail;go_ret
  exact ⟨by rw [HCK.o]; rfl, HB.o⟩
 | false =>
  go_wp2_with (with_reducible refine wlb 17 row_tx HX.o.blk HX.o.len ?_);refine (HTW.o _ (HI.o.grow HB.o)).mono ?_;rintro e w_ ⟨rfl, y_⟩;replace HB := kp (HB.o.grow' y_);replace HX := kp (HX.o.grow y_);replace HU1 := kp (HU1.o.grow y_);replace HU2 := kp (HU2.o.grow y_);replace HSB := kp (HSB.o.grow y_);clear y_;cases tw with
  | true =>
   go_wp2_with fail;go_ret
   exact ⟨by rw [HCK.o]; rfl, HB.o⟩
  | false =>
   go_wp2_with fail;refine (HC1.o _ _ _ HU1.o.sl).mono ?_;rintro e v_ ⟨rfl, rfl⟩;cases z1 with
   | true =>
    go_wp2_with fail;go_ret
    exact ⟨by rw [HCK.o]; rfl, HB.o⟩
   | false =>
    go_wp2_with fail;refine (HC2.o _ _ _ HU2.o.sl).mono ?_;rintro e v_ ⟨rfl, rfl⟩;cases z2 with
    | true =>
     go_wp2_with fail;go_ret
     exact ⟨by rw [HCK.o]; rfl, HB.o⟩
    | false =>
     go_wp2_with fail;refine (HA1.o _ _ _ HU1.o.sl).mono ?_;clear HU1;rintro e w_ ⟨rfl, y_⟩;replace HB := kp (HB.o.grow' y_);replace HX := kp (HX.o.grow y_);replace HU2 := kp (HU2.o.grow y_);replace HSB := kp (HSB.o.grow y_);clear y_;by_cases h1 : r1 = 0
     ·have HC3 := kq (ck = if r2 ≠ 0 then r2 else if s1 ≠ s2 then 9 else 0) (by rw [HCK.o]; simp [h1]);subst h1;have c2 := HX.o.blk.at_ HT2.o;have HSZ := kq (b4 ≤ w_.heap.size) HSB.o;have HR3 := kq (w_.ownsRow b4 24 1 (.slice A4 n2 c4) n2 xs2) HU2.o;go_wp2_with (first | (at_builtin; refine wpl_app1 rfl rfl el_us HR3.o rfl (m := 1) rfl ?_ ?_ ?_ ?_ ?_ ?_))
      ·rfl
      ·rfl
      ·omega
      ·omega
      ·exact HSZ.o
      intro A5 c5 w4_ ho_ hg_ hA_;have hne_ := own_from HR3.o;have HB_ := kp (below_grown HB.o hg_ HB.o.size (fun x hx => by have := hne_ _ hx; have := HGB.o; omega));have HS5 := kq (Sl w4_ w4_.heap.size 1 A5 (n2 + 1) xs3) (by rw [HZ.o]; exact Sl.of_own ho_);clear ho_ hg_ hA_ hne_ HB HR3 HU2 HX c2;go_wp2_with fail;refine (HA2.o _ _ _ HS5.o).mono ?_;rintro e w5_ ⟨rfl, y_⟩;have HB := kp (HB_.o.grow' y_);clear y_ HB_ HS5;by_cases h2 : r2 = 0
      ·have HC4 := kq (ck = if s1 ≠ s2 then 9 else 0) (by rw [HC3.o]; simp [h2]);subst h2;by_cases h3 : s1 = s2
       ·have d3 : (s1 != s2) = false := by simpa using h3
        have HC5 := kq (ck = 0) (by rw [HC4.o]; simp [h3]);clear h3;go_wp2_with fail;go_ret
        exact ⟨by rw [HC5.o]; rfl, HB.o⟩
       ·have d3 : (s1 != s2) = true := by simpa using h3
        have HC5 := kq (ck = 9) (by rw [HC4.o]; simp [h3]);clear h3;go_wp2_with fail;go_ret
        exact ⟨by rw [HC5.o]; rfl, HB.o⟩
      ·have d2 : (r2 != 0) = true := by simpa using h2
       have HC4 := kq (ck = r2) (by rw [HC3.o]; simp [h2]);clear h2;go_wp2_with fail;go_ret
       exact ⟨by rw [HC4.o]; rfl, HB.o⟩
     ·have d1 : (r1 != 0) = true := by simpa using h1
      have HC3 := kq (ck = r1) (by rw [HCK.o]; simp [h1]);clear h1;go_wp2_with fail;go_ret
      exact ⟨by rw [HC3.o]; rfl, HB.o⟩
section
variable {P : Program} {ops : Array Oper} {am cl : List Nat} {sp : Nat → Sp} {w0 : World} {Q : Exit → Act → World → Prop} {us : List Nat} {L : List (Nat × (World → Prop))} {o : Oper} {i : Nat} {a : Act}
end
end Go.Proofs.YtiijepimkgaccaaGreat

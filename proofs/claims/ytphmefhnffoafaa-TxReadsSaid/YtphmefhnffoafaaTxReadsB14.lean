/- The contract of tx.isTwice. -/
import Derived.Test.YtphmefhnffoafaaTxReadsB13
import Derived.Test.YtphmefhnffoafaaTxReadsB2
import Derived.Test.YtphmefhnffoafaaTxReadsB3
import Derived.Test.YtphmefhnffoafaaTxReadsB8
import Derived.Test.YtphmefhnffoafaaTxReadsB9
import Derived.Deep.CutBlock
set_option linter.unusedSimpArgs false
/- The contract of tx.isTwice. -/
namespace Go.Proofs.Ytphmefhnffoafaa
open Go.RowKit Go.Shelf
set_option linter.unusedVariables false
def ptKV (x : List UInt8 × Int) : List Value := x.1.map B ++ [.int .i64 x.2]
def ptKA (x : List UInt8 × Int) : Value := .agg (ptKV x).toArray
def ptKO (x : List UInt8 × Int) : Prop := x.1.length = 32 ∧ I64 x.2
theorem ptKV_len {x : List UInt8 × Int} (h : ptKO x) : (ptKV x).length = 33 := by simp [ptKV, h.1]
theorem key_pt : WideMaps.KeyLaw Try.prog 39 := deep_law_laid laid_out' (m := 3) (by omega) (of_decide_eq_true (by kernel_rfl)) (by kernel_rfl) (by kernel_rfl)
theorem lits_pt (d : Nat) (x : List UInt8 × Int) (h : ptKO x) : ∃ l, Try.prog.keyLits (d + 3) 39 (ptKV x) = some l := by
  refine kl_struct Try.underlying39 _ _ (by rw [ptKV_len h, cells_point]) (by kernel_rfl) ?_
  have e0 : (x.1.map B).length = 32 := by rw [List.length_map, h.1]
  intro f hf
  simp only [List.mem_cons, List.not_mem_nil, or_false] at hf
  rcases hf with rfl | rfl
  · have : List.take 32 (List.drop 0 (ptKV x)) = x.1.map B := by unfold ptKV; rw [List.drop_zero, List.take_append_of_le_length (by omega), List.take_of_length_le (by omega)]
    simp only [cells_id, this]; exact lits_id _ _ h.1
  · have : List.take 1 (List.drop 32 (ptKV x)) = [.int .i64 x.2] := by unfold ptKV; rw [List.drop_append_of_le_length (by omega), List.drop_of_length_le (by omega)]; rfl
    simp only [cells_int, this]; exact kl_int Try.underlying3 _ _ h.2.wf
theorem keyOf_ptK (x : List UInt8 × Int) (h : ptKO x) : ∃ l, keyOf Try.prog 39 (ptKA x) = some l := by
  obtain ⟨n4, hn4⟩ := types_3
  exact keyOf_ex (by kernel_rfl) (by kernel_rfl) (ptKV x) (by rw [ptKV_len h, cells_point]) (by rw [hn4]; exact lits_pt (n4 + 1) _ h)
theorem map_B_injT : ∀ {a b : List UInt8}, a.map B = b.map B → a = b
  | [], [], _ => rfl
  | [], _ :: _, h => by simp at h
  | _ :: _, [], h => by simp at h
  | x :: a, y :: b, h => by
    simp only [List.map_cons, List.cons.injEq] at h
    have h1 : x = y := by have := h.1; unfold B at this; exact b8_inj (by injection this)
    rw [h1, map_B_injT h.2]
theorem ptKA_inj {x y : List UInt8 × Int} (hx : x.1.length = 32) (hy : y.1.length = 32) (h : ptKA x = ptKA y) : x = y := by
  unfold ptKA at h
  have h2 : ptKV x = ptKV y := by simpa using h
  unfold ptKV at h2
  have h3 := List.append_inj h2 (by simp [hx, hy])
  exact Prod.ext (map_B_injT h3.1) (by simpa using h3.2)
def encP (L : List (List UInt8 × Int)) : List (Value × Value) := L.map fun x => (ptKA x, .int .i64 1)
structure SeenAt (w : World) (b : Nat) (L : List (List UInt8 × Int)) : Prop where
  map : ∃ es clock, w.heap[b]? = some (.map es clock) ∧ MapOK Try.prog 39 es clock ∧ kvs es = encP L
  ok : ∀ x ∈ L, ptKO x
  nodup : L.Nodup
theorem SeenAt.lt {w : World} {b : Nat} {L : List (List UInt8 × Int)} (h : SeenAt w b L) : b < w.heap.size := by
  obtain ⟨es, clock, h3, _⟩ := h.map
  exact (Array.getElem?_eq_some_iff.1 h3).1
theorem SeenAt.grow {w w' : World} {b : Nat} {L : List (List UInt8 × Int)} (h : SeenAt w b L) (k : Grow w w') : SeenAt w' b L := by
  have hl := h.lt
  obtain ⟨es, clock, h3, h4⟩ := h.map
  exact ⟨⟨es, clock, (k.block b hl).trans h3, h4⟩, h.ok, h.nodup⟩
section
variable {P : Program} {w : World} {t k e : TypeId} {es : Array MapEntry} {clock b : Nat} {x : Value} {lx : Lit}
theorem run_lookup1_no (K : WideMaps.KeyLaw P k) (ht : P.underlying t = some (.map k e)) (hb : w.heap[b]? = some (.map es clock)) (h : MapOK P k es clock) (hx : keyOf P k x = some lx) (hno : ∀ p ∈ kvs es, p.1 ≠ x)
    {z : Value} (hz : ∀ w, (zeroValue e).run P w = .ok z w) : (Instr.lookup t (.map (some b)) x false).run P w = .ok z w := by
  simp [Instr.lookup, run_underlying ht, MapKept.run_getObj_map hb, K.check w _ hx, h.find_no K hx hno w, hz]
theorem run_lookup1_yes (K : WideMaps.KeyLaw P k) (ht : P.underlying t = some (.map k e)) (hb : w.heap[b]? = some (.map es clock)) (h : MapOK P k es clock) (hx : keyOf P k x = some lx) {j : Nat} {en : MapEntry} (hj : es[j]? = some en) (hk : en.key = x) :
    (Instr.lookup t (.map (some b)) x false).run P w = .ok en.val w := by
  simp [Instr.lookup, run_underlying ht, MapKept.run_getObj_map hb, K.check w _ hx, h.find_yes K hx hj hk w]
end
theorem zeroV_int (w : World) : (zeroValue 3).run Try.prog w = .ok (.int .i64 0) w := by kernel_rfl
theorem SeenAt.none {w : World} {b : Nat} {L : List (List UInt8 × Int)} (h : SeenAt w b L) {x : List UInt8 × Int} (hx : ptKO x) (hno : x ∉ L) {es : Array MapEntry} {clock : Nat} (h3 : w.heap[b]? = some (.map es clock)) : ∀ p ∈ kvs es, p.1 ≠ ptKA x := by
  obtain ⟨es', clock', h3', _, h5⟩ := h.map
  rw [h3] at h3'
  injection h3' with h3'
  injection h3' with e1 e2
  subst e1
  intro p hp e
  rw [h5] at hp
  obtain ⟨y, hy, rfl⟩ := List.mem_map.1 hp
  have := ptKA_inj (h.ok y hy).1 hx.1 e
  subst this
  exact hno hy
set_option maxRecDepth 100000 in
theorem SeenAt.look {w : World} {b : Nat} {L : List (List UInt8 × Int)} (h : SeenAt w b L) {x : List UInt8 × Int} (hx : ptKO x) : (Instr.lookup 84 (.map (some b)) (ptKA x) false).run Try.prog w = .ok (.int .i64 (if x ∈ L then 1 else 0)) w := by
  obtain ⟨lx, hlx⟩ := keyOf_ptK x hx
  obtain ⟨es, clock, h3, h4, h5⟩ := h.map
  by_cases hm : x ∈ L
  · rw [if_pos hm]
    obtain ⟨j, hj, hje⟩ := List.getElem_of_mem hm
    have e1 : (kvs es)[j]? = some (ptKA x, .int .i64 1) := by rw [h5]; unfold encP; rw [List.getElem?_map, List.getElem?_eq_getElem hj, hje]; rfl
    unfold kvs at e1
    rw [List.getElem?_map] at e1
    obtain ⟨en, he, e2⟩ := Option.map_eq_some_iff.1 e1
    have he' : es[j]? = some en := by simpa using he
    have := run_lookup1_yes key_pt Try.underlying84 h3 h4 hlx he' (by injection e2)
    injection e2 with e3 e4
    rw [e4] at this
    exact this
  · rw [if_neg hm]
    exact run_lookup1_no key_pt Try.underlying84 h3 h4 hlx (h.none hx hm h3) zeroV_int
/-- The phases of 'seen[p]++' at a key that is not there. -/
def seenC (w0 : World) (b : Nat) (es : Array MapEntry) (clock : Nat) (x : List UInt8 × Int) : Nat → World → Prop
  | 0, w => w0.grownBy w (some b) ∧ w.heap[b]? = some (.map es clock)
  | 1, w => w0.grownBy w (some b) ∧ w.heap[b]? = some (.map (es.push { key := ptKA x, val := .int .i64 0, born := clock }) (clock + 1))
  | _ + 2, w => w0.grownBy w (some b) ∧ w.heap[b]? = some (.map ((es.push { key := ptKA x, val := .int .i64 0, born := clock }).modify es.size fun e => { e with val := .int .i64 1 }) (clock + 1))
section
variable {w0 w : World} {b : Nat} {es : Array MapEntry} {clock : Nat} {x : List UInt8 × Int} {lx : Lit}
theorem seenC.low : ∀ k w, seenC w0 b es clock x k w → w0.grownBy w (some b)
  | 0, w, h => h.1
  | 1, w, h => h.1
  | _ + 2, w, h => h.1
theorem seenC.entry (h : seenC w0 b es clock x 0 w) : seenC w0 b es clock x 1 (withBlk w b (.map (es.push { key := ptKA x, val := .int .i64 0, born := clock }) (clock + 1))) :=
  ⟨grownBy_trans h.1 (withBlk_grown _ _ _), withBlk_heap h.2⟩
theorem seenC.fill (h : seenC w0 b es clock x 1 w) : seenC w0 b es clock x 2 (withBlk w b (.map ((es.push { key := ptKA x, val := .int .i64 0, born := clock }).modify es.size fun e => { e with val := .int .i64 1 }) (clock + 1))) :=
  ⟨grownBy_trans h.1 (withBlk_grown _ _ _), withBlk_heap h.2⟩
set_option maxRecDepth 100000 in
theorem seenC.run0 (h : seenC w0 b es clock x 0 w) (hm : MapOK Try.prog 39 es clock) (hx : keyOf Try.prog 39 (ptKA x) = some lx) (hno : ∀ q ∈ kvs es, q.1 ≠ ptKA x) :
    (Instr.mapEntry 84 (.map (some b)) (ptKA x)).run Try.prog w = .ok (.tuple #[.int .i64 0, goInt clock]) (withBlk w b (.map (es.push { key := ptKA x, val := .int .i64 0, born := clock }) (clock + 1))) :=
  run_mapEntry_no key_pt Try.underlying84 h.2 hm hx hno zeroV_int
set_option maxRecDepth 100000 in
theorem seenC.run1 (h : seenC w0 b es clock x 1 w) (hm : MapOK Try.prog 39 es clock) (hx : keyOf Try.prog 39 (ptKA x) = some lx) (hno : ∀ q ∈ kvs es, q.1 ≠ ptKA x) :
    (Instr.entryStore 84 (.map (some b)) (.int .i64 clock) (.int .i64 1)).run Try.prog w = .ok () (withBlk w b (.map ((es.push { key := ptKA x, val := .int .i64 0, born := clock }).modify es.size fun e => { e with val := .int .i64 1 }) (clock + 1))) :=
  run_entryStore Try.underlying84 h.2 (hm.push hx hno _) (j := es.size) (en := { key := ptKA x, val := .int .i64 0, born := clock }) (by simp) (.int .i64 1)
set_option maxRecDepth 100000 in
theorem seenC.look (hm : MapOK Try.prog 39 es clock) (hx : keyOf Try.prog 39 (ptKA x) = some lx) (hno : ∀ q ∈ kvs es, q.1 ≠ ptKA x) :
    ∀ k w, k ≤ 1 → seenC w0 b es clock x k w → (Instr.lookup 84 (.map (some b)) (ptKA x) false).run Try.prog w = .ok (.int .i64 0) w
  | 0, w, _, h => run_lookup1_no key_pt Try.underlying84 h.2 hm hx hno zeroV_int
  | 1, w, _, h => run_lookup1_yes key_pt Try.underlying84 h.2 (hm.push hx hno _) hx (j := es.size) (en := { key := ptKA x, val := .int .i64 0, born := clock }) (by simp) rfl
  | _ + 2, w, hk, h => by omega
theorem seenC.done {L : List (List UInt8 × Int)} (h : seenC w0 b es clock x 2 w) (hm : MapOK Try.prog 39 es clock) (hx : keyOf Try.prog 39 (ptKA x) = some lx) (hno : ∀ q ∈ kvs es, q.1 ≠ ptKA x) (hL : kvs es = encP L) (hok : ∀ y ∈ L, ptKO y) (hxo : ptKO x) (hnd : L.Nodup) (hnm : x ∉ L) :
    SeenAt w b (L ++ [x]) := by
  refine ⟨⟨_, _, h.2, (hm.push hx hno _).modify _ _, ?_⟩, fun y hy => ?_, ?_⟩
  · rw [kvs_modify (en := { key := ptKA x, val := .int .i64 0, born := clock }) (by simp), kvs_push, hL]
    have : es.size = (encP L).length := by rw [← hL, kvs_length]
    rw [this]
    simp [encP]
  · rcases List.mem_append.1 hy with h | h
    · exact hok y h
    · rw [List.mem_singleton.1 h]; exact hxo
  · rw [List.nodup_append]
    exact ⟨hnd, by simp, fun a ha c hc e => by rw [List.mem_singleton.1 hc] at e; subst e; exact hnm ha⟩
end
section
variable {P : Program} {C : Nat → World → Prop} {M : List Nat} {R : List (Nat × Nat)} {ops : Array Oper} {Q : Act → Prop} {rest : List Oper} {i : Nat} {a : Act} {o : Oper}
theorem ph_loadm {T : TypeId} {x : Operand} {n b off : Nat} {cs : List Value} (hM : M.contains i = false) (hw : Region.wanted o (yielded ops a.tmps) = true) (ho : o.op = .load T x) (hT : RowT P T n)
    (hb : ∀ k, phLo R i ≤ k → k ≤ phHi R i → ∀ w, C k w → ∀ j u, cs[j]? = some u → w.cell? ⟨b, off + j, none⟩ = some u) (hx : a.eval x = .pointer (some ⟨b, off, none⟩)) (hn : cs.length = n)
    (hk : ∀ K : Act → Prop, (∀ a, wpPhase P C M R ops Q rest (i + 1) a → K a) → K (a.put o.dst (.agg cs.toArray))) : wpPhase P C M R ops Q (o :: rest) i a := by
  refine ph_value hM hw (fun k h1 h2 w hC => ?_) hk
  obtain ⟨d, hu, hd, hi⟩ := hT
  have hrun := run_loadVar_mid (P := P) w b off T cs d (hb k h1 h2 w hC) hu (by cases d <;> simp_all) (by rw [hi, hn])
  unfold execOp
  simp only [ho, hx, Instr.loadAt, Instr.sureAddr, Sem.run_bind, Sem.run_pure, Result.andThen_ok, hrun]
end
end Go.Proofs.Ytphmefhnffoafaa

/- The walk of tx.isTwice. -/
namespace Go.Proofs.Ytphmefhnffoafaa
open Go.RowKit Go.Shelf
set_option linter.unusedVariables false
theorem pt_cells {w : World} {g : Nat} {i : Inp} {v : Value} (hb : Blk w g 41 (inV v i)) (hk : i.ok) : ∀ (j : Nat) (u : Value), (ptKV i.pt)[j]? = some u → w.cell? ⟨g, 0 + j, none⟩ = some u := by
  intro j u hu
  refine hb.at_ (i := 0 + j) ?_
  rw [Nat.zero_add]
  have e : inV v i = ptKV i.pt ++ [.int .u64 i.amount, v] := by simp [inV, ptKV, Inp.pt]
  rw [e, List.getElem?_append_left (List.getElem?_eq_some_iff.1 hu).1]; exact hu
set_option maxRecDepth 100000 in
set_option maxHeartbeats 4000000 in
theorem istwice_any {A : Option Addr} {n c : Nat} {A2 : Option Addr} {n2 c2 : Nat} {fee ex : Int} {l : List (Value × Inp)} {os : List Outp} (w : World) (hi : InsAt w A n c l) (hn : n ≤ 1000000) :
    Calls Try.prog 20 #[.agg (txV A n c A2 n2 c2 fee ex).toArray] w fun e w' => e = .returned (.bool (twiceT ⟨l.map Prod.snd, os, fee, ex⟩)) ∧ Grow w w' := by
  have HI := Lib.hid hi
  have HTC := Lib.hid (txV_cl (A := A) (n := n) (c := c) (A2 := A2) (n2 := n2) (c2 := c2) (fee := fee) (ex := ex))
  have HT0 := Lib.hid (show (txV A n c A2 n2 c2 fee ex)[0]? = some (.slice A n c) from rfl)
  obtain ⟨tv, htv⟩ : ∃ q, q = txV A n c A2 n2 c2 fee ex := ⟨_, rfl⟩
  rw [← htv] at HTC HT0 ⊢
  obtain ⟨ps, hps⟩ : ∃ q, q = (l.map Prod.snd).map Inp.pt := ⟨_, rfl⟩
  have HPS := Lib.hid hps
  have HTW := Lib.hid (show twiceT ⟨l.map Prod.snd, os, fee, ex⟩ = !decide ps.Nodup by rw [hps]; rfl)
  rw [HTW.out]
  have hmm : ∀ w, (Instr.makeMap 84 none).run Try.prog w = .ok (.map (some w.heap.size)) (w.alloc (.map #[] 0)) := fun w => rfl
  obtain ⟨w_, hw⟩ : ∃ x, x = w := ⟨_, rfl⟩
  have HB := Lib.hid (show Below w.heap.size w w_ by rw [hw]; exact Below.refl _ _)
  suffices H : Calls Try.prog 20 #[.agg tv.toArray] w_ fun e w' => e = .returned (.bool (!decide ps.Nodup)) ∧ Grow w w' by rw [hw] at H; exact H
  clear hw hi htv hps
  go_enter Try.func20, Try.ntmps20
  go_wp2_with (first | (with_reducible refine wpl_box (o := ⟨some 1, _, _, _, _, _⟩) rfl rfl rfl ?_))
  intro w2_ hb2_ hb_ hsz2_
  have HX_ := Lib.hid (at_mk hb2_ HTC.out.len)
  clear hb2_ hsz2_
  have HG_ := Lib.hid HB.out.size
  have HB_ := Lib.hid (HB.out.grow' hb_)
  clear HB
  have HB := HB_
  clear HB_
  generalize hg_ : w_.heap.size = g1 at HX_ HG_ ⊢
  clear hg_
  have HX_g := HG_
  clear HG_
  have HX := HX_
  clear hb_ HX_
  try clear w_
  rename World => w_
  go_upto_region 2 with fail
  generalize hw_ : World.alloc w_ _ = w2_
  obtain ⟨b, hb⟩ : ∃ q, q = w_.heap.size := ⟨_, rfl⟩
  have HSN := Lib.hid (show SeenAt w2_ b [] from ⟨⟨#[], 0, by rw [← hw_, hb]; exact heap_alloc_new _ _, MapOK.empty _ _ _, rfl⟩, by simp, by simp⟩)
  have hb_ : Grow w_ w2_ := by rw [← hw_]; exact (Below.refl _ _).alloc (Nat.le_refl _) _
  have HBG := Lib.hid (show w.heap.size ≤ b by rw [hb]; exact HB.out.size)
  rw [← hb]
  have HX_ := Lib.hid (HX.out.grow hb_); have HB_ := Lib.hid (HB.out.grow' hb_)
  clear hw_ hb hb_ HX HB hmm
  have HX := HX_; have HB := HB_
  clear HX_ HB_
  try clear w_
  rename World => w_
  have c0 := HX.out.blk.at_ HT0.out
  go_wp2_with fail
  go_loopw [10] (fun iv wr => ∃ k : Nat, k ≤ n ∧ iv = .int .i64 k ∧ Hid (SeenAt wr b (ps.take k) ∧ Below w.heap.size w wr)) (fun iv _ => n - (intOf iv).toNat)
  case atStart => exact ⟨0, by omega, rfl, Lib.hid ⟨HSN.out, HB.out⟩⟩
  case round =>
    obtain ⟨k, hk, rfl, hI⟩ := hrel
    clear HB HSN HX c0
    have HSN := Lib.hid hI.out.1; have HB := Lib.hid hI.out.2
    clear hI
    rename World => w_
    by_cases hlt : k < n
    · have HII := Lib.hid (HI.out.grow HB.out)
      obtain ⟨b0, off, p, rfl, hp, hok, hc⟩ := HII.out.at_ hlt
      have HC := Lib.hid hc
      have HPC := Lib.hid (inV_cl hok)
      have HOK := Lib.hid hok.2
      have HPK := Lib.hid (show ptKO p.2.pt from ⟨hok.2.1, hok.2.2.1⟩)
      have HPV := Lib.hid (show ps[k]? = some p.2.pt by rw [HPS.out, List.getElem?_map, List.getElem?_map, hp]; rfl)
      have HPT := Lib.hid (fun (w : World) (g : Nat) (h : Blk w g 41 (inV p.1 p.2)) => pt_cells h hok.2)
      obtain ⟨pv, hpv⟩ : ∃ q, q = inV p.1 p.2 := ⟨_, rfl⟩
      rw [← hpv] at HC HPC HPT
      obtain ⟨x, hx⟩ : ∃ q, q = p.2.pt := ⟨_, rfl⟩
      rw [← hx] at HPK HPV HPT
      have HXL := Lib.hid (ptKV_len HPK.out)
      clear hp hok hc hpv hx HII
      go_wp2_with (first | (with_reducible refine wpl_loadm (o := ⟨some 13, _, _, _, _, _⟩) rfl rfl row_tin HC.out rfl HPC.out.len ?_) | (with_reducible refine wpl_alloc (o := ⟨some 5, _, _, _, _, _⟩) rfl rfl zero_tin ?_))
      intro w1_ hb1_ hbw1_ hsz1_
      have HB1_ := Lib.hid (at_mk hb1_ len_tin)
      have HBW1_ := Lib.hid hbw1_
      have HZ1_ := Lib.hid hsz1_
      clear hb1_ hbw1_ hsz1_
      go_wp2_with (first | (with_reducible refine wpl_storeb (o := ⟨none, .store _ _ _, _, _, _, _⟩) rfl rfl row_tin HB1_.out.blk rfl rfl HB1_.out.len HPC.out.len HPC.out.one ?_))
      intro w2_ hb2_ hg2_ hsz2_
      have hb_ := var_grow HBW1_.out HZ1_.out hg2_
      have HX_ := Lib.hid (at_mk hb2_ HPC.out.len)
      clear hb2_ hg2_ hsz2_ HB1_ HBW1_ HZ1_
      have HB_ := Lib.hid (HB.out.grow' hb_)
      clear HB
      have HB := HB_
      clear HB_
      have HSN_ := Lib.hid (HSN.out.grow hb_)
      clear HSN
      have HSN := HSN_
      clear HSN_
      generalize hg_ : w_.heap.size = g5 at HX_ ⊢
      clear hg_
      have HE := HX_
      clear hb_ HX_
      clear w1_
      try clear w_
      rename World => w_
      have HPM := Lib.hid (HPT.out _ _ HE.out.blk)
      have hlk := HSN.out.look HPK.out
      unfold ptKA at hlk
      by_cases hm : x ∈ ps.take k
      · have HND := Lib.hid (show decide ps.Nodup = false by
          rw [decide_eq_false_iff_not]
          intro hnd
          obtain ⟨j, hj, he⟩ := List.getElem_of_mem hm
          rw [List.getElem_take] at he
          rw [List.length_take] at hj
          have hk2 := (List.getElem?_eq_some_iff.1 HPV.out).2
          have := (List.getElem_inj hnd (h₀ := by omega) (h₁ := (List.getElem?_eq_some_iff.1 HPV.out).1)).1 (he.trans hk2.symm)
          omega)
        rw [if_pos hm] at hlk
        clear hm
        go_wp2_with (first | (with_reducible refine wpl_loadm (o := ⟨some 16, _, _, _, _, _⟩) rfl rfl row_point HPM.out rfl HXL.out ?_))
        go_ret
        exact ⟨by rw [HND.out]; rfl, HB.out⟩
      · rw [if_neg hm] at hlk
        have HNM := Lib.hid hm
        clear hm
        go_wp2_with (first | (with_reducible refine wpl_loadm (o := ⟨some 16, _, _, _, _, _⟩) rfl rfl row_point HPM.out rfl HXL.out ?_))
        obtain ⟨es, clock, h3, h4, h5⟩ := HSN.out.map
        obtain ⟨lx, hlx⟩ := keyOf_ptK x HPK.out
        have HGB := Lib.hid (show g5 ≠ b from fun e => by
          have h6 := HE.out.blk
          unfold Blk at h6
          rw [e, h3] at h6
          cases h6)
        have HM3 := Lib.hid h3
        have HNO := Lib.hid (HSN.out.none HPK.out HNM.out h3)
        have HDN := Lib.hid (fun w3 h => seenC.done (w0 := w_) (b := b) (w := w3) h h4 hlx HNO.out h5 HSN.out.ok HPK.out HSN.out.nodup HNM.out)
        have HLO := Lib.hid (fun k w hk h => seenC.look (w0 := w_) (b := b) h4 hlx HNO.out k w hk h)
        have HR0 := Lib.hid (fun w h => seenC.run0 (w0 := w_) (b := b) (w := w) h h4 hlx HNO.out)
        have HR1 := Lib.hid (fun w h => seenC.run1 (w0 := w_) (b := b) (w := w) h h4 hlx HNO.out)
        unfold ptKA at HLO HR0 HR1
        clear h3 h4 h5 hlx hlk
        repeat' (first | (with_reducible refine wp_phase (id := 7) (seenC w_ b es clock x) [5, 7] [(0,2),(0,2),(0,2),(0,1),(0,2),(0,0),(0,2),(1,1)] (by kernel_rfl) (by kernel_rfl) ?_ ?_) | go_values | go_skip | go_guarded | go_step | go_upon | go_back)
        · exact ⟨grown_of_below (Drawn.all (Drawn.one w_)) _, HM3.out⟩
        refine ph_value rfl (by first | rfl | go_simp) (fun k_ _ _ w_ hC_ => by first | (go_simp; rfl) | (go_simp; done) | rfl) (fun K hK => ?_)
        go_simp
        refine hK _ ?_
        clear hK K
        refine ph_value rfl (by first | rfl | go_simp) (fun k_ _ _ w_ hC_ => by first | (go_simp; rfl) | (go_simp; done) | rfl) (fun K hK => ?_)
        go_simp
        refine hK _ ?_
        clear hK K
        refine ph_loadm rfl rfl rfl row_point (fun k _ _ w h => HPT.out w g5 (Blk.grown HE.out.blk (seenC.low k w h) (fun e => HGB.out (Option.some.inj e)))) rfl HXL.out ?_
        (intro K hK; go_simp; refine hK _ ?_; clear hK K)
        refine ph_value rfl (by first | rfl | go_simp) (fun k_ h1_ h2_ w_ hC_ => by have c1 := HLO.out k_ w_ (Nat.le_trans h2_ (by decide)) hC_; first | (go_simp; rfl) | (go_simp; done) | rfl) (fun K hK => ?_)
        go_simp
        refine hK _ ?_
        clear hK K
        refine ph_value rfl (by first | rfl | go_simp) (fun k_ _ _ w_ hC_ => by first | (go_simp; rfl) | (go_simp; done) | rfl) (fun K hK => ?_)
        go_simp
        refine hK _ ?_
        clear hK K
        refine ph_run 0 rfl rfl rfl (by first | rfl | go_simp) (fun w' hC => ⟨_, by (have hrun := HR0.out w' hC); first | (go_simp; rfl) | (go_simp; exact ⟨rfl, rfl⟩) | go_simp, hC.entry⟩) ?_
        (intro K hK; go_simp; refine hK _ ?_; clear hK K)
        refine ph_value rfl (by first | rfl | go_simp) (fun k_ _ _ w_ hC_ => by first | (go_simp; rfl) | (go_simp; done) | rfl) (fun K hK => ?_)
        go_simp
        refine hK _ ?_
        clear hK K
        refine ph_runs 1 rfl rfl rfl (by first | rfl | go_simp) (fun w' hC => ⟨_, by (have hrun := HR1.out w' hC); (have hw1 : IntKind.i64.wrap 1 = 1 := by decide); first | (go_simp; rfl) | (go_simp; exact ⟨rfl, rfl⟩) | go_simp, hC.fill⟩) ?_
        (intro K hK; go_simp; refine hK _ ?_; clear hK K)
        refine ph_nil ?_
        intro w3 h3
        have HS3 := Lib.hid (show SeenAt w3 b (ps.take (k + 1)) by rw [take_snoc HPV.out]; exact HDN.out w3 h3)
        have HB3 := Lib.hid (put_below HB.out HBG.out (seenC.low 2 w3 h3))
        clear h3
        go_wp2_with fail
        go_roundw
        case rel => exact ⟨k + 1, by omega, by go_num, Lib.hid ⟨HS3.out, HB3.out⟩⟩
        case measure => simp [intOf]; omega
    · obtain rfl : k = n := by omega
      have HND := Lib.hid (show decide ps.Nodup = true by
        rw [decide_eq_true_iff]
        have h := HSN.out.nodup
        rw [List.take_of_length_le (by rw [HPS.out, List.length_map, List.length_map]; have := HI.out.2.2.1; omega)] at h
        exact h)
      go_wp2_with fail
      go_ret
      exact ⟨by rw [HND.out]; rfl, HB.out⟩
end Go.Proofs.Ytphmefhnffoafaa

/- The contract of tx.Check. -/
namespace Go.Proofs.Ytphmefhnffoafaa
open Go.RowKit Go.Shelf
set_option linter.unusedVariables false
theorem OwnU.sl {w : World} {base n c : Nat} {A : Option Addr} {zs : List Value} (h : OwnU w base A n c zs) : Sl w w.heap.size 1 A n zs := Sl.of_own h
set_option maxRecDepth 100000 in
set_option maxHeartbeats 8000000 in
theorem tcheck_any {A : Option Addr} {n c : Nat} {A2 : Option Addr} {n2 c2 : Nat} {fee ex : Int} {l : List (Value × Inp)} {os : List Outp} (w : World) (hi : InsAt w A n c l) (ho : OutsAt w A2 n2 c2 os) (hn : n ≤ 100000) (hn2 : n2 ≤ 100000) (hf : U64 fee) (hex : I64 ex) :
    Calls Try.prog 8 #[.agg (txV A n c A2 n2 c2 fee ex).toArray] w fun e w' => e = .returned (.int .i64 (checkT ⟨l.map Prod.snd, os, fee, ex⟩)) ∧ Grow w w' := by
  have HI := Lib.hid hi; have HO := Lib.hid ho
  have HTC := Lib.hid (txV_cl (A := A) (n := n) (c := c) (A2 := A2) (n2 := n2) (c2 := c2) (fee := fee) (ex := ex))
  have HT2 := Lib.hid (show (txV A n c A2 n2 c2 fee ex)[2]? = some (.int .u64 fee) from rfl)
  have HAM := Lib.hid (fun w hi ho => amounts_any (A := A) (n := n) (c := c) (A2 := A2) (n2 := n2) (c2 := c2) (fee := fee) (ex := ex) (l := l) (os := os) w hi ho (by omega) (by omega))
  have HLG := Lib.hid (fun w hi => islong_any (A := A) (n := n) (c := c) (A2 := A2) (n2 := n2) (c2 := c2) (fee := fee) (ex := ex) (l := l) (os := os) w hi ho.2.2.1 (by omega) (by omega) hex)
  have HTW := Lib.hid (fun w hi => istwice_any (A := A) (n := n) (c := c) (A2 := A2) (n2 := n2) (c2 := c2) (fee := fee) (ex := ex) (l := l) (os := os) w hi (by omega))
  obtain ⟨t, ht⟩ : ∃ t, t = Txn.mk (l.map Prod.snd) os fee ex := ⟨_, rfl⟩
  obtain ⟨lg, hlg⟩ : ∃ q, q = longT t := ⟨_, rfl⟩
  obtain ⟨tw, htw⟩ : ∃ q, q = twiceT t := ⟨_, rfl⟩
  rw [← ht, ← hlg] at HLG
  rw [← ht, ← htw] at HTW
  have e1 : t.ins.map Inp.amount = amI l := by rw [ht]; simp [amI]
  have e2 : t.outs.map Outp.amount = amO os := by rw [ht]; rfl
  have e3 : t.fee = fee := by rw [ht]
  have HP1 := Lib.hid (show ∀ z ∈ amI l, 0 ≤ z from fun z hz => by obtain ⟨p, hp, rfl⟩ := List.mem_map.1 hz; exact (hi.2.1 p hp).2.2.2.1)
  have HP2 := Lib.hid (show ∀ z ∈ amO os ++ [fee], 0 ≤ z from fun z hz => by
    rcases List.mem_append.1 hz with h | h
    · obtain ⟨p, hp, rfl⟩ := List.mem_map.1 h; exact (ho.2.1 p hp).2.1
    · rw [List.mem_singleton.1 h]; exact hf.1)
  obtain ⟨z1, hz1⟩ : ∃ q, q = (amI l).contains 0 := ⟨_, rfl⟩
  obtain ⟨z2, hz2⟩ : ∃ q, q = (amO os).contains 0 := ⟨_, rfl⟩
  have HC1 := Lib.hid (fun (A : Option Addr) (c : Nat) w hs => contains64_any (A := A) (n := n) (c := c) (zs := amI l) (x := 0) w hs (by omega))
  have HC2 := Lib.hid (fun (A : Option Addr) (c : Nat) w hs => contains64_any (A := A) (n := n2) (c := c) (zs := amO os) (x := 0) w hs (by omega))
  have HA1 := Lib.hid (fun (A : Option Addr) (c : Nat) w hs => all_any A n c (amI l) w hs (by omega) HP1.out)
  have HA2 := Lib.hid (fun (A : Option Addr) (c : Nat) w hs => all_any A (n2 + 1) c (amO os ++ [fee]) w hs (by omega) HP2.out)
  rw [← hz1] at HC1
  rw [← hz2] at HC2
  obtain ⟨s1, hs1⟩ : ∃ q, q = (allE 0 (amI l)).1 := ⟨_, rfl⟩
  obtain ⟨r1, hr1⟩ : ∃ q, q = (allE 0 (amI l)).2 := ⟨_, rfl⟩
  obtain ⟨s2, hs2⟩ : ∃ q, q = (allE 0 (amO os ++ [fee])).1 := ⟨_, rfl⟩
  obtain ⟨r2, hr2⟩ : ∃ q, q = (allE 0 (amO os ++ [fee])).2 := ⟨_, rfl⟩
  rw [← hs1, ← hr1] at HA1
  rw [← hs2, ← hr2] at HA2
  have HCK := Lib.hid (show checkT t = if lg = true then 4 else if tw = true then 7 else if (z1 || z2) = true then 8 else if r1 ≠ 0 then r1 else if r2 ≠ 0 then r2 else if s1 ≠ s2 then 9 else 0 by
    unfold checkT zeroT
    rw [e1, e2, e3, ← hlg, ← htw, ← hz1, ← hz2, ← hs1, ← hr1, ← hs2, ← hr2])
  rw [← ht]
  obtain ⟨ck, hck⟩ : ∃ q, q = checkT t := ⟨_, rfl⟩
  rw [← hck] at HCK ⊢
  have HZ := Lib.hid (show ((amO os ++ [fee]).map (Value.int .u64)) = (amO os).map (Value.int .u64) ++ [.int .u64 fee] by simp)
  obtain ⟨tv, htv⟩ : ∃ q, q = txV A n c A2 n2 c2 fee ex := ⟨_, rfl⟩
  rw [← htv] at HTC HT2 HAM HLG HTW ⊢
  obtain ⟨xs1, hx1⟩ : ∃ q, q = (amI l).map (Value.int .u64) := ⟨_, rfl⟩
  obtain ⟨xs2, hx2⟩ : ∃ q, q = (amO os).map (Value.int .u64) := ⟨_, rfl⟩
  rw [← hx1, ← hx2] at HAM
  rw [← hx1] at HC1 HA1
  rw [← hx2] at HC2 HZ
  obtain ⟨xs3, hx3⟩ : ∃ q, q = (amO os ++ [fee]).map (Value.int .u64) := ⟨_, rfl⟩
  rw [← hx3] at HA2 HZ
  obtain ⟨w_, hw⟩ : ∃ x, x = w := ⟨_, rfl⟩
  have HB := Lib.hid (show Below w.heap.size w w_ by rw [hw]; exact Below.refl _ _)
  suffices H : Calls Try.prog 8 #[.agg tv.toArray] w_ fun e w' => e = .returned (.int .i64 ck) ∧ Grow w w' by rw [hw] at H; exact H
  clear hw hi ho ht hlg htw e1 e2 e3 hz1 hz2 hs1 hr1 hs2 hr2 hck htv hx1 hx2 hx3 hf hex
  go_enter Try.func8, Try.ntmps8
  go_wp2_with (first | (with_reducible refine wpl_box (o := ⟨some 1, _, _, _, _, _⟩) rfl rfl rfl ?_))
  intro w2_ hb2_ hb_ hsz2_
  have HX_ := Lib.hid (at_mk hb2_ HTC.out.len)
  clear hb2_ hsz2_
  have HG_ := Lib.hid HB.out.size
  have HB_ := Lib.hid (HB.out.grow' hb_)
  clear HB
  have HB := HB_
  clear HB_
  generalize hg_ : w_.heap.size = g1 at HX_ HG_ ⊢
  clear hg_
  have HX_g := HG_
  clear HG_
  have HX := HX_
  clear hb_ HX_
  try clear w_
  rename World => w_
  go_wp2_with (first | (with_reducible refine wpl_loadb (o := ⟨some 9, _, _, _, _, _⟩) rfl rfl row_tx HX.out.blk rfl HX.out.len ?_))
  refine (HAM.out _ (HI.out.grow HB.out) (HO.out.grow HB.out)).mono ?_
  rintro e w2_ ⟨A3, c3, A4, c4, rfl, hu1, hu2, hb_⟩
  have HU1 := Lib.hid hu1
  have HU2 := Lib.hid (show OwnU w2_ w_.heap.size A4 n2 c4 xs2 from hu2)
  have HGB := Lib.hid (show w.heap.size ≤ w_.heap.size ∧ g1 < w_.heap.size from ⟨HB.out.size, HX.out.lt⟩)
  obtain ⟨b4, hb4⟩ : ∃ q, q = w_.heap.size := ⟨_, rfl⟩
  have HSB := Lib.hid (show SzG w2_ w_.heap.size from hb_.size)
  rw [← hb4] at HU1 HU2 HGB HSB
  have HX1 := Lib.hid (HX.out.grow hb_)
  clear hu1 hu2 hb4
  clear HX
  have HX := HX1
  clear HX1
  have HB1_ := Lib.hid (HB.out.grow' hb_)
  clear HB hb_
  have HB := HB1_
  clear HB1_
  try clear w_
  rename World => w_
  go_wp2_with (first | (with_reducible refine wpl_loadb (o := ⟨some 14, _, _, _, _, _⟩) rfl rfl row_tx HX.out.blk rfl HX.out.len ?_))
  refine (HLG.out _ (HI.out.grow HB.out)).mono ?_
  rintro e w_ ⟨rfl, hb_⟩
  have HB_ := Lib.hid (HB.out.grow' hb_)
  clear HB
  have HB := HB_
  clear HB_
  have HX_ := Lib.hid (HX.out.grow hb_)
  clear HX
  have HX := HX_
  clear HX_
  have HU1_ := Lib.hid (HU1.out.grow hb_)
  clear HU1
  have HU1 := HU1_
  clear HU1_
  have HU2_ := Lib.hid (HU2.out.grow hb_)
  clear HU2
  have HU2 := HU2_
  clear HU2_
  have HSB_ := Lib.hid (HSB.out.grow hb_)
  clear HSB
  have HSB := HSB_
  clear HSB_
  clear hb_
  cases lg with
  | true =>
    go_wp2_with fail
    go_ret
    exact ⟨by rw [HCK.out]; rfl, HB.out⟩
  | false =>
    go_wp2_with (first | (with_reducible refine wpl_loadb (o := ⟨some 17, _, _, _, _, _⟩) rfl rfl row_tx HX.out.blk rfl HX.out.len ?_))
    refine (HTW.out _ (HI.out.grow HB.out)).mono ?_
    rintro e w_ ⟨rfl, hb_⟩
    have HB_ := Lib.hid (HB.out.grow' hb_)
    clear HB
    have HB := HB_
    clear HB_
    have HX_ := Lib.hid (HX.out.grow hb_)
    clear HX
    have HX := HX_
    clear HX_
    have HU1_ := Lib.hid (HU1.out.grow hb_)
    clear HU1
    have HU1 := HU1_
    clear HU1_
    have HU2_ := Lib.hid (HU2.out.grow hb_)
    clear HU2
    have HU2 := HU2_
    clear HU2_
    have HSB_ := Lib.hid (HSB.out.grow hb_)
    clear HSB
    have HSB := HSB_
    clear HSB_
    clear hb_
    cases tw with
    | true =>
      go_wp2_with fail
      go_ret
      exact ⟨by rw [HCK.out]; rfl, HB.out⟩
    | false =>
      go_wp2_with fail
      refine (HC1.out _ _ _ HU1.out.sl).mono ?_
      rintro e w2_ ⟨rfl, rfl⟩
      cases z1 with
      | true =>
        go_wp2_with fail
        go_ret
        exact ⟨by rw [HCK.out]; rfl, HB.out⟩
      | false =>
        go_wp2_with fail
        refine (HC2.out _ _ _ HU2.out.sl).mono ?_
        rintro e w2_ ⟨rfl, rfl⟩
        cases z2 with
        | true =>
          go_wp2_with fail
          go_ret
          exact ⟨by rw [HCK.out]; rfl, HB.out⟩
        | false =>
          go_wp2_with fail
          refine (HA1.out _ _ _ HU1.out.sl).mono ?_
          clear HU1
          rintro e w_ ⟨rfl, hb_⟩
          have HB_ := Lib.hid (HB.out.grow' hb_)
          clear HB
          have HB := HB_
          clear HB_
          have HX_ := Lib.hid (HX.out.grow hb_)
          clear HX
          have HX := HX_
          clear HX_
          have HU2_ := Lib.hid (HU2.out.grow hb_)
          clear HU2
          have HU2 := HU2_
          clear HU2_
          have HSB_ := Lib.hid (HSB.out.grow hb_)
          clear HSB
          have HSB := HSB_
          clear HSB_
          clear hb_
          by_cases h1 : r1 = 0
          · have HC3 := Lib.hid (show ck = if r2 ≠ 0 then r2 else if s1 ≠ s2 then 9 else 0 by rw [HCK.out]; simp [h1])
            subst h1
            have c2 := HX.out.blk.at_ HT2.out
            have HSZ := Lib.hid (show b4 ≤ w_.heap.size from HSB.out)
            have HR3 := Lib.hid (show w_.ownsRow b4 26 1 (.slice A4 n2 c4) n2 xs2 from HU2.out)
            go_wp2_with (first | (at_builtin; refine wpl_app1 rfl rfl el_us HR3.out rfl (m := 1) rfl ?_ ?_ ?_ ?_ ?_ ?_))
            · rfl
            · rfl
            · omega
            · omega
            · exact HSZ.out
            intro A5 c5 w4_ ho_ hg_ hA_
            have hne_ := own_from HR3.out
            have HB_ := Lib.hid (below_grown HB.out hg_ HB.out.size (fun x hx => by have := hne_ _ hx; have := HGB.out; omega))
            have HS5 := Lib.hid (show Sl w4_ w4_.heap.size 1 A5 (n2 + 1) xs3 by rw [HZ.out]; exact Sl.of_own ho_)
            clear ho_ hg_ hA_ hne_ HB HR3 HU2 HX c2
            go_wp2_with fail
            refine (HA2.out _ _ _ HS5.out).mono ?_
            rintro e w5_ ⟨rfl, hb_⟩
            have HB := Lib.hid (HB_.out.grow' hb_)
            clear hb_ HB_ HS5
            by_cases h2 : r2 = 0
            · have HC4 := Lib.hid (show ck = if s1 ≠ s2 then 9 else 0 by rw [HC3.out]; simp [h2])
              subst h2
              by_cases h3 : s1 = s2
              · have d3 : (s1 != s2) = false := by simpa using h3
                have HC5 := Lib.hid (show ck = 0 by rw [HC4.out]; simp [h3])
                clear h3
                go_wp2_with fail
                go_ret
                exact ⟨by rw [HC5.out]; rfl, HB.out⟩
              · have d3 : (s1 != s2) = true := by simpa using h3
                have HC5 := Lib.hid (show ck = 9 by rw [HC4.out]; simp [h3])
                clear h3
                go_wp2_with fail
                go_ret
                exact ⟨by rw [HC5.out]; rfl, HB.out⟩
            · have d2 : (r2 != 0) = true := by simpa using h2
              have HC4 := Lib.hid (show ck = r2 by rw [HC3.out]; simp [h2])
              clear h2
              go_wp2_with fail
              go_ret
              exact ⟨by rw [HC4.out]; rfl, HB.out⟩
          · have d1 : (r1 != 0) = true := by simpa using h1
            have HC3 := Lib.hid (show ck = r1 by rw [HCK.out]; simp [h1])
            clear h1
            go_wp2_with fail
            go_ret
            exact ⟨by rw [HC3.out]; rfl, HB.out⟩
end Go.Proofs.Ytphmefhnffoafaa

/- The contract of field.Pen.Text. -/
namespace Go.Proofs.Ytphmefhnffoafaa
open Go.RowKit Go.Shelf
set_option linter.unusedVariables false
set_option maxRecDepth 100000 in
set_option maxHeartbeats 2000000 in
theorem ptext_any (g : Nat) (K : Nat → Prop) (xs : List UInt8) {A : Option Addr} {n c Bd : Nat} {bs : List UInt8} (w : World) (h : PenAt w K g xs) (hs : Sl w Bd 1 A n (bs.map B)) (hbd : ∀ k, k < Bd → K k) (hl : xs.length + n ≤ 900000) :
    Calls Try.prog 39 #[.pointer (some ⟨g, 0, none⟩), .slice A n c] w fun e w' => e = .returned (.tuple #[]) ∧ PenAt w' K g (xs ++ (numB n ++ bs)) ∧ Kept K w w' := by
  have HP := Lib.hid h
  have HS := Lib.hid hs
  have HBD := Lib.hid hbd
  have hbn : bs.length = n := by have := hs.len; simpa using this
  have HBN := Lib.hid hbn
  have HU := Lib.hid (numB_le (n := n) (by omega))
  have q1 := conv_u64' (n := n) (by omega)
  clear h hs hbd hbn
  go_enter Try.func39, Try.ntmps39
  go_wp2_with fail
  refine (num_any g n K xs _ HP.out (by omega) (by omega)).mono ?_
  rintro e w2_ ⟨rfl, hp_, hk_⟩
  have HK := Lib.hid hk_
  have HS2 := Lib.hid (HS.out.below (hk_.below HBD.out))
  obtain ⟨ys, hys⟩ : ∃ ys, ys = xs ++ numB n := ⟨_, rfl⟩
  have HYE := Lib.hid (show ys ++ bs = xs ++ (numB n ++ bs) by rw [hys, List.append_assoc])
  have HYL := Lib.hid (show ys.length ≤ xs.length + 9 by rw [hys, List.length_append]; have := HU.out; omega)
  rw [← hys] at hp_
  obtain ⟨Ap, cp, hq1, hq2, hq3, hq4⟩ := hp_
  have HPB := Lib.hid hq1
  have HPO := Lib.hid hq2
  have HPK := Lib.hid hq3
  have HPN := Lib.hid hq4
  have hcl := hq1.at_ (i := 0) rfl
  have hyl := HYL.out
  have HONE := Lib.hid (all_bytes bs)
  clear hk_ hq1 hq2 hq3 hq4 HS HP q1 hys
  go_wp2_with (first | (at_builtin; refine wpl_apps rfl rfl el_u8 HPO.out rfl HS2.out rfl HONE.out (by omega) (by omega) (Nat.zero_le _) ?_))
  intro A3 c3 w3_ ho_ hg_ hA_
  have hll : (ys ++ bs).length = ys.length + n := by rw [List.length_append, HBN.out]
  have HPB3 := Lib.hid (HPB.out.grown hg_ (fun e => (HPN.out e.symm).elim))
  have HAP := Lib.hid (pen_app (ys := ys ++ bs) (A' := A3) (c' := c3) HPB.out HPO.out HPK.out HPN.out (by rw [hll, List.map_append]; exact ho_) hg_ (fun b hb => hA_.elim (fun h => .inl (h.symm.trans hb)) (fun h => .inr (by obtain ⟨a, h1, h2⟩ := h; subst h1; have h3 : a.block = b := Option.some.inj hb; omega))))
  rw [hll] at HAP
  clear ho_ hg_ hA_ hcl hll
  have hcl := HPB3.out.at_ (i := 0) rfl
  have hfz := HPB3.out.frozen 0
  go_wp2_with fail
  refine bodyPost_end (results_none rfl _ _ _) rfl ?_
  exact ⟨rfl, by rw [← HYE.out]; exact HAP.out.1, HK.out.trans HAP.out.2⟩
end Go.Proofs.Ytphmefhnffoafaa

/- The contract of tx.Put. -/
namespace Go.Proofs.Ytphmefhnffoafaa
open Go.RowKit Go.Shelf
set_option linter.unusedVariables false
def Kq (gp q : Nat) : Nat → Prop := fun k => k < gp ∨ k = q
def K0 (gp : Nat) : Nat → Prop := fun k => k < gp
def KB (gp : Nat) (w4 w : World) : Prop := Below gp w4 w ∧ gp ≤ w4.heap.size
theorem KB.sz {gp : Nat} {w4 w : World} (h : KB gp w4 w) : gp ≤ w.heap.size := Nat.le_trans h.2 h.1.size
theorem KB.grow {gp : Nat} {w4 w w2 : World} (h : KB gp w4 w) (k : Grow w w2) : KB gp w4 w2 := ⟨h.1.trans (k.mono h.sz), h.2⟩
theorem KB.kept {gp q : Nat} {w4 w w2 : World} (h : KB gp w4 w) (k : Kept (Kq gp q) w w2) : KB gp w4 w2 := ⟨h.1.trans (k.below (fun j hj => .inl hj)), h.2⟩
theorem PenAt.plus {w : World} {gp g q : Nat} {xs : List UInt8} {T : TypeId} {cs : List Value} (h : PenAt w (K0 gp) g xs) (hb : Blk w q T cs) (hT : T ≠ 5) (hq : q ≠ g) : PenAt w (Kq gp q) g xs := by
  obtain ⟨A, c, h1, h2, h3, h4⟩ := h
  refine ⟨A, c, h1, h2, fun k hk => ?_, h4⟩
  rcases hk with hk | rfl
  · exact h3 k hk
  · refine ⟨hb.lt, hq, fun e => ?_⟩
    rcases h2.2 with ⟨hv, _⟩ | ⟨b, cap, cur, hv, _, hh, _⟩
    · injection hv with hA; subst hA; cases e
    · injection hv with hA; subst hA
      have e2 : b = k := Option.some.inj e
      subst e2
      unfold Blk at hb
      rw [hb] at hh
      injection hh with hh
      injection hh with _ hh
      exact hT hh
theorem PenAt.minus {w : World} {gp g q : Nat} {xs : List UInt8} (h : PenAt w (Kq gp q) g xs) : PenAt w (K0 gp) g xs := h.less (fun k hk => .inl hk)
theorem At.kept {w w2 : World} {gp q n : Nat} {T : TypeId} {cs : List Value} (h : At w q T n cs) (k : Kept (Kq gp q) w w2) : At w2 q T n cs := ⟨k.blk h.1 (.inr rfl), h.2⟩
theorem putI_len {i : Inp} (h : i.ok) (h2 : i.secret.length ≤ 64) (h3 : 0 ≤ i.index ∧ i.index ≤ 15) : (putI i).length ≤ 130 := by
  unfold putI
  simp only [List.length_append]
  have a := numB_le (n := i.index.toNat) (by omega)
  have b := numB_le (n := i.amount.toNat) (by have := h.2.2; unfold U64 at this; omega)
  have c := numB_le (n := i.secret.length) (by omega)
  have d := h.1
  omega
theorem putO_len {o : Outp} (h : o.ok) : (putO o).length ≤ 50 := by
  unfold putO
  simp only [List.length_append]
  have b := numB_le (n := o.amount.toNat) (by have := h.2; unfold U64 at this; omega)
  have d := h.1
  omega
theorem fm_len {α : Type} (f : α → List UInt8) (m : Nat) : ∀ (l : List α), (∀ x ∈ l, (f x).length ≤ m) → (l.flatMap f).length ≤ l.length * m
  | [], _ => by simp
  | x :: l, h => by
    rw [List.flatMap_cons, List.length_append, List.length_cons, Nat.succ_mul]
    have h1 := h x (List.mem_cons_self ..)
    have h2 := fm_len f m l (fun y hy => h y (List.mem_cons_of_mem _ hy))
    omega
theorem fm_snoc {α : Type} (f : α → List UInt8) {l : List α} {k : Nat} {p : α} (h : l[k]? = some p) : (l.take (k + 1)).flatMap f = (l.take k).flatMap f ++ f p := by
  rw [take_snoc h]; simp
theorem fm_le {α : Type} (f : α → List UInt8) (m : Nat) {l : List α} (k : Nat) (h : ∀ x ∈ l, (f x).length ≤ m) : ((l.take k).flatMap f).length ≤ k * m := by
  have := fm_len f m (l.take k) (fun x hx => h x (List.mem_of_mem_take hx))
  have h2 : (l.take k).length ≤ k := by rw [List.length_take]; omega
  exact Nat.le_trans this (Nat.mul_le_mul_right m h2)
end Go.Proofs.Ytphmefhnffoafaa

/- slices.AppendSeq(nil, seq), slices.Collect(seq) of outputs, against whatever iterator value. -/
import Derived.Test.YtolbbhbfbpiljaaSrtB
import Derived.Test.YtolbbhbfbpiljaaItr
import Derived.Test.YtolbbhbfbpiljaaWpi
import Derived.RangeFuncBound
import Derived.RangeFuncGives
import Derived.Maps.AppendAt
import Derived.Shelf.Abstract
import Derived.Shelf.RegionOpen
namespace Go.Proofs.Ytolbbhbfbpiljaa
open Go.RowKit Go.Maps Go.Sort Go.Shelf
set_option linter.unusedVariables false
def encPV (p : PtS) : Value := .agg (encPt p).toArray
theorem encPV_inj {p q : PtS} (h : encPV p = encPV q) : p = q := encPt_inj (by unfold encPV at h; injection h with h; exact congrArg Array.toList h)
/-- The range over a function in a body: its assignment, its body. -/
def rfOf : Code → Option (Code × Code)
  | .rangeFunc _ _ a c => some (a, c)
  | .seq a b => match rfOf a with
    | some x => some x
    | none => rfOf b
  | .cond _ a b => match rfOf a with
    | some x => some x
    | none => rfOf b
  | .block _ a => rfOf a
  | .loop a => rfOf a
  | .scope a => rfOf a
  | _ => none
noncomputable def apAs : Code := (((Try.f124.body.map rfOf).getD none).getD (.skip, .skip)).1
noncomputable def apBd : Code := (((Try.f124.body.map rfOf).getD none).getD (.skip, .skip)).2
noncomputable def apRec (fn : FuncId) (sv : Value) (Bs D : Nat) (st : LoopState) (pend : Option Code) : Loop :=
  { state := st, pending := pend, fn, tmps := #[.slice none 0 0, sv, .pointer (some ⟨Bs, 0, none⟩), undef, .slice none 0 0, undef, sv, undef, undef, undef, undef, undef, undef], params := #[7], assign := apAs, body := apBd, defers := D }
structure ApAt (w0 : World) (fn : FuncId) (sv : Value) (Bs l D : Nat) (ss : List PtS) (W : World) : Prop where
  box : ∃ v, W.heap[Bs]? = some (.cells #[v] 56 (0, 0)) ∧ W.ownsRow w0.heap.size 52 33 v ss.length (ss.flatMap encPt) ∧ (v = .slice none 0 0 ↔ ss = [])
  L : W.heap[l]? = some (.loop (apRec fn sv Bs D .ready none))
  K : W.heap[D]? = some (.deferred (some []))
  below : Below w0.heap.size w0 W
theorem ap_abides (w0 : World) (fn : FuncId) (sv : Value) (Bs l D B : Nat) (hB : w0.heap.size ≤ B) : AbidesFrom B (ApAt w0 fn sv Bs l D) := fun s W W' row h hg hrow => by
  have hrow' : ∀ r, row = some r → ∃ o : Obj, W.heap[r]? = some o ∧ o.isWalk = true := fun r e => (hrow r e).2
  obtain ⟨v, hv, hr, hn⟩ := h.box
  exact ⟨⟨v, (grownBy_keeps hg hrow' hv rfl).trans hv, ownsRow_abides_a hr hg hrow', hn⟩, (grownBy_keeps hg hrow' h.L rfl).trans h.L, (grownBy_keeps hg hrow' h.K rfl).trans h.K,
    h.below.grown hg h.below.size (fun k e => Nat.le_trans hB (hrow k e).1)⟩
theorem info_pt2 : ∃ i z, Try.prog.info? 52 = some i ∧ i.zero = some z ∧ i.size = 33 ∧ i.bytes = 40 ∧ z.cells.size = 33 ∧ 0 < 33 := el_pt.hi
theorem zero_pt : (Try.prog.info? 52).map (·.zero) = some (some (.agg (ptV (pt 0)).toArray)) := by kernel_rfl
theorem grownBy_up {a b : World} {r : Option Nat} (h : a.grownBy b none) : a.grownBy b r := ⟨h.os, h.tape, h.output, h.size, fun k hk _ => h.block k hk (by simp)⟩
theorem grownBy_trans0 {a b c : World} {r : Option Nat} (h : a.grownBy b r) (k : b.grownBy c r) : a.grownBy c r :=
  ⟨k.os.trans h.os, k.tape.trans h.tape, k.output.trans h.output, Nat.le_trans h.size k.size, fun i hi hn => (k.block i (Nat.lt_of_lt_of_le hi h.size) hn).trans (h.block i hi hn)⟩
theorem own_new {W w' : World} {base : Nat} {e : TypeId} {size : Nat} {v : Value} {k : Nat} {xs : List Value} {q : Nat} (h : W.ownsRow base e size v k xs) (hg : W.grownBy w' (some q)) (hq : W.heap.size ≤ q) : w'.ownsRow base e size v k xs :=
  h.kept hg (by
    rcases h.2 with ⟨rfl, _⟩ | ⟨g, cap, cur, rfl, _, hgb, _⟩
    · exact .inl rfl
    · refine .inr fun e' => ?_
      have : g = q := by simpa [Value.ownBlock] using e'
      have := (Array.getElem?_eq_some_iff.1 hgb).1
      omega)
set_option maxRecDepth 100000 in
set_option maxHeartbeats 4000000 in
theorem ap_yield (F : Fence) (m : Nat) (w0 : World) (fn : FuncId) (hfn : F.fn fn) (sv : Value) (Bs l D : Nat) (hBl : Bs ≠ l) (hDl : D ≠ l) (hDB : D ≠ Bs) (h0B : w0.heap.size ≤ Bs) (h0l : w0.heap.size ≤ l)
    (N : Nat) (hN : N ≤ 1000000) (ss : List PtS) (x : PtS) (W : World) (h : ApAt w0 fn sv Bs l D ss W) (hlen : ss.length < N) :
    YieldAt F m Try.prog l #[encPV x] W fun e W' => e = .returned (.bool true) ∧ ApAt w0 fn sv Bs l D (ss ++ [x]) W' ∧ KeepsWalks W W' := by
  have hne : (56 : Nat) ≠ 52 := by decide
  obtain ⟨i0, z, hi, hz0, hz1, hz2, hz3, _⟩ := info_pt2
  obtain ⟨v, hv, hrow, _⟩ := h.box
  have hml : (1000000 : Nat) ≤ maxLen := by decide
  refine ⟨fn, #[.slice none 0 0, sv, .pointer (some ⟨Bs, 0, none⟩), undef, .slice none 0 0, undef, sv, encPV x, undef, undef, undef, undef, undef], apAs, apBd, by simpa [apRec] using run_yield (P := Try.prog) (args := #[encPV x]) h.L rfl, roundIn_of_wpIn hfn ?_⟩
  have HX := Lib.hid (encPt_len x); have HX1 := Lib.hid (encPt_one x)
  unfold encPV
  obtain ⟨xs, hxs⟩ : ∃ xs, xs = encPt x := ⟨_, rfl⟩
  have HXE := Lib.hid hxs
  rw [← hxs] at HX HX1 ⊢
  have HH := Lib.hid h; have HROW := Lib.hid hrow; have HVV := Lib.hid hv
  have HZP := Lib.hid (ptV_length (pt_ok 0 (by decide)).1)
  clear hxs h hrow hv
  conv => arg 4; whnf
  gi_wp2_with (first | (with_reducible refine wpi_alloc (o := ⟨some 5, _, _, _, _, _⟩) rfl rfl zero_pt ?_) | gi_round_op_a)
  intro V1 hb1 hV1
  have hg1 : W.grownBy V1 none := by rw [hV1]; exact World.grownBy_alloc W _ none
  have hkw1 : KeepsWalks W V1 := by rw [hV1]; exact KeepsWalks.alloc _ _
  have HB1 := Lib.hid hb1
  obtain ⟨gv, hgv⟩ : ∃ g, g = W.heap.size := ⟨_, rfl⟩
  rw [← hgv] at HB1 ⊢
  have HGV := Lib.hid hgv
  clear hb1 hV1 hgv
  gi_wp2_with (first | (with_reducible refine wpi_storeb (o := ⟨none, .store _ _ _, _, _, _, _⟩) rfl rfl row_point HB1.out rfl rfl HZP.out HX.out HX1.out ?_) | gi_round_op_a)
  intro V2 hb2 hg2 hsz2
  have HB2 := Lib.hid hb2
  have hgW2 : W.grownBy V2 (some W.heap.size) := by rw [← HGV.out]; exact grownBy_trans0 (grownBy_up hg1) hg2
  have hkw2 : KeepsWalks W V2 := hkw1.trans (KeepsWalks.of_grownBy hg2 (fun j o hj ho => by cases hj; rw [HB1.out] at ho; cases ho; rfl))
  clear hb2 hg2 hsz2 hg1 hkw1 HB1
  -- the world behind the assignment: all as it was
  have hold : ∀ {k : Nat} {o : Obj}, W.heap[k]? = some o → V2.heap[k]? = some o := fun {k o} hk => (hgW2.block k (Array.getElem?_eq_some_iff.1 hk).1 (fun e => by injection e with e; have := (Array.getElem?_eq_some_iff.1 hk).1; omega)).trans hk
  have hL0 : V2.heap[l]? = some (.loop (apRec fn sv Bs D .ready none)) := hold HH.out.L
  have hv0 : V2.heap[Bs]? = some (.cells #[v] 56 (0, 0)) := hold HVV.out
  have hK0 : V2.heap[D]? = some (.deferred (some [])) := hold HH.out.K
  have hrow0 : V2.ownsRow w0.heap.size 52 33 v ss.length (ss.flatMap encPt) := own_new HROW.out hgW2 (Nat.le_refl _)
  have hb0 : Below w0.heap.size w0 V2 := HH.out.below.grown hgW2 HH.out.below.size (fun k e => by cases e; exact HH.out.below.size)
  have hl : l < V2.heap.size := (Array.getElem?_eq_some_iff.1 hL0).1
  have hgl : gv ≠ l := fun e => by rw [← e, HB2.out] at hL0; cases hL0
  have hgB : gv ≠ Bs := fun e => by rw [← e, HB2.out] at hv0; injection hv0 with h1; injection h1 with _ h2; exact hne h2.symm
  have hbr := run_beginRound (P := Try.prog) hL0 rfl
  obtain ⟨W2, hW2⟩ : ∃ W2, V2.putObj l (.loop { apRec fn sv Bs D .ready none with state := .busy }) = W2 := ⟨_, rfl⟩
  rw [hW2] at hbr
  have hg2 : V2.grownBy W2 (some l) := by rw [← hW2]; exact grownBy_putObj_a _ _ _
  have hk2 : KeepsWalks V2 W2 := by rw [← hW2]; exact KeepsWalks.putObj _ hL0 rfl
  have hv2 : W2.heap[Bs]? = some (.cells #[v] 56 (0, 0)) := by rw [← hW2]; exact (World.putObj_heap_other hBl).trans hv0
  have hK2 : W2.heap[D]? = some (.deferred (some [])) := by rw [← hW2]; exact (World.putObj_heap_other hDl).trans hK0
  have hL2 : W2.heap[l]? = some (.loop { apRec fn sv Bs D .ready none with state := .busy }) := by rw [← hW2]; exact World.putObj_heap_same hl
  have hrow2 : W2.ownsRow w0.heap.size 52 33 v ss.length (ss.flatMap encPt) := hrow0.kept hg2 (ownsRow_ne_a hrow0 hL0 (fun cur e => by cases e))
  have hb2 : Below w0.heap.size w0 W2 := hb0.grown hg2 hb0.size (fun k e => by cases e; exact h0l)
  have HBV := Lib.hid (show Blk W2 gv 52 xs from HB2.out.grown hg2 (fun e => hgl (Option.some.inj e)))
  have hkW2 : KeepsWalks W W2 := hkw2.trans hk2
  obtain ⟨hc2, hf2⟩ := cell_of_box_a hv2
  have hBlt : Bs < W2.heap.size := (Array.getElem?_eq_some_iff.1 hv2).1
  have hl2 : l < W2.heap.size := (Array.getElem?_eq_some_iff.1 hL2).1
  have hDlt : D < W2.heap.size := (Array.getElem?_eq_some_iff.1 hK2).1
  have HV2 := Lib.hid hv2; have HK2 := Lib.hid hK2; have HL2 := Lib.hid hL2; have HR2 := Lib.hid hrow2; have HBB := Lib.hid hb2; have HKW := Lib.hid hkW2; have HLT := Lib.hid (show Bs < W2.heap.size ∧ l < W2.heap.size ∧ D < W2.heap.size from ⟨hBlt, hl2, hDlt⟩)
  have HNE := Lib.hid (show ∀ (j : Nat) (o : Obj), W2.heap[j]? = some o → (∀ cur, o ≠ .cells cur 52 (0, 0)) → some j ≠ v.ownBlock from fun j o hj hno => by
    rcases ownsRow_ne_a hrow2 hj hno with e | e
    · rw [e]; simp
    · exact fun e' => e e'.symm)
  have HHI := Lib.hid hi; have HHZ := Lib.hid hz0; have HZ1 := Lib.hid hz1; have HZ2 := Lib.hid hz2; have HZ3 := Lib.hid hz3
  have HNEQ := Lib.hid hne
  clear hW2 hold hL0 hv0 hK0 hrow0 hb0 hl hg2 hk2 hv2 hK2 hL2 hrow2 hb2 hkw2 hgW2 HB2 hkW2 hBlt hl2 hDlt hi hz0 hz1 hz2 hz3 hne hgl hgB HVV HROW
  gi_wp2
  clear hbr
  conv => arg 4; whnf
  gi_wp2_with (first | (with_reducible refine wpi_loadb (o := ⟨some 9, _, _, _, _, _⟩) rfl rfl row_point HBV.out rfl HX.out ?_) | (refine wpi_row1 (o := ⟨some 10, .buildSlice _ _ _, _, _, _, _⟩) rfl rfl el_pt (by first | rfl | (go_simp; done)) HX.out (by omega) ?_) | gi_round_op_a)
  intro W3 hb3 hW3
  have HW3 := Lib.hid hW3
  have hsrc : ∀ (j : Nat) (u : Value), xs[j]? = some u → W3.cell? ((⟨W2.heap.size, 0, none⟩ : Addr).add j) = some u := by rw [hW3]; exact cell_row_new W2 xs 52
  have hrow3 : W3.ownsRow w0.heap.size 52 33 v ss.length (ss.flatMap encPt) := by rw [hW3]; exact HR2.out.alloc _
  have hw3s : W3.heap.size = W2.heap.size + 1 := by rw [hW3]; simp
  have hlow3 : ∀ k, k < W2.heap.size → W3.heap[k]? = W2.heap[k]? := fun k hk => by rw [hW3]; exact Below.heap_alloc _ _ k hk
  have hkw3 : KeepsWalks W2 W3 := by rw [hW3]; exact KeepsWalks.alloc _ _
  have hb30 : Below w0.heap.size w0 W3 := by rw [hW3]; exact HBB.out.alloc HBB.out.size _
  have HSRC := Lib.hid hsrc; have HR3 := Lib.hid hrow3; have HB3 := Lib.hid hb30; have HLOW3 := Lib.hid hlow3; have HKW3 := Lib.hid hkw3; have HS3 := Lib.hid hw3s
  generalize hgx : W2.heap.size = gx at HSRC HLOW3 HS3 ⊢
  have HGX := Lib.hid hgx
  clear hb3 hW3 hsrc hrow3 hb30 hlow3 hkw3 hw3s hgx
  gi_wp2_with (first
    | (gi_at_builtin; refine wpListIn_append_own _ rfl _ _ 56 rfl w0.heap.size 52 i0 z 33 40 Try.underlying56 HHI.out HHZ.out HZ1.out HZ2.out HZ3.out (by decide) v ss.length (ss.flatMap encPt) rfl HR3.out ⟨gx, 0, none⟩ 1 1 xs rfl (by rw [HX.out]) HSRC.out HX1.out (by omega) (by omega) HB3.out.size ?_
       intro v' w3 hown' hg3 hnil3
       have hv3 : w3.heap[Bs]? = some (.cells #[v] 56 (0, 0)) := (hg3.block Bs (by have := HLT.out.1; have := HS3.out; have := HGX.out; omega) (HNE.out _ _ HV2.out (fun cur e => by injection e with _ e2; exact HNEQ.out e2))).trans ((HLOW3.out Bs (by have := HLT.out.1; have := HGX.out; omega)).trans HV2.out)
       obtain ⟨hc3, hf3⟩ := cell_of_box_a hv3
       obtain ⟨g', cap', cur', rfl, hbase', hgb', hr1, hr2, hr3, hr4⟩ : ∃ g' cap' cur', v' = .slice (some ⟨g', 0, none⟩) (ss.length + 1) cap' ∧ w0.heap.size ≤ g' ∧ w3.heap[g']? = some (.cells cur' 52 (0, 0)) ∧ ss.length + 1 ≤ cap' ∧ cap' ≤ maxLen ∧ cur'.size = cap' * 33 ∧ cur'.toList.take ((ss.length + 1) * 33) = ss.flatMap encPt ++ xs := by
         rcases hown'.2 with ⟨_, h0⟩ | h'
         · exact absurd h0 (by omega)
         · exact h'
       go_frame)
    | gi_round_op_a)
  have hg3' : W3.grownBy w3 v.ownBlock := hg3
  have hL3 : w3.heap[l]? = some (.loop { apRec fn sv Bs D .ready none with state := .busy }) := (hg3'.block l (by have := HLT.out.2.1; have := HS3.out; have := HGX.out; omega) (HNE.out _ _ HL2.out (fun cur e => by cases e))).trans ((HLOW3.out l (by have := HLT.out.2.1; have := HGX.out; omega)).trans HL2.out)
  have hK3 : w3.heap[D]? = some (.deferred (some [])) := (hg3'.block D (by have := HLT.out.2.2; have := HS3.out; have := HGX.out; omega) (HNE.out _ _ HK2.out (fun cur e => by cases e))).trans ((HLOW3.out D (by have := HLT.out.2.2; have := HGX.out; omega)).trans HK2.out)
  obtain ⟨w4, hw4⟩ : ∃ w4, w3.setCell ⟨Bs, 0, none⟩ (.slice (some ⟨g', 0, none⟩) (ss.length + 1) cap') = w4 := ⟨_, rfl⟩
  rw [hw4]
  have hg4 : w3.grownBy w4 (some Bs) := by rw [← hw4]; exact grownBy_setCell0_a _ _ _
  have hv4 : w4.heap[Bs]? = some (.cells #[.slice (some ⟨g', 0, none⟩) (ss.length + 1) cap'] 56 (0, 0)) := by rw [← hw4]; exact heap_setCell_box_a _ hv3
  have hL4 : w4.heap[l]? = some (.loop { apRec fn sv Bs D .ready none with state := .busy }) := (hg4.block l (Array.getElem?_eq_some_iff.1 hL3).1 (fun e => hBl (by cases e; rfl))).trans hL3
  have hK4 : w4.heap[D]? = some (.deferred (some [])) := (hg4.block D (Array.getElem?_eq_some_iff.1 hK3).1 (fun e => hDB (by cases e; rfl))).trans hK3
  have hrow4 := hown'.kept hg4 (ownsRow_ne_a hown' hv3 (fun cur e => by injection e with _ e2; exact HNEQ.out e2))
  have hl4 : l < w4.heap.size := (Array.getElem?_eq_some_iff.1 hL4).1
  have hb3 : Below w0.heap.size w0 w3 := HB3.out.grown hg3' HB3.out.size (fun k e => (HR3.out.lt k e).1)
  have hb4 : Below w0.heap.size w0 w4 := hb3.grown hg4 hb3.size (fun k e => by cases e; exact h0B)
  have hk4 : KeepsWalks W w4 := ((HKW.out.trans HKW3.out).trans (KeepsWalks.of_grownBy hg3' (ownsRow_not_walk_a HR3.out))).trans (by rw [← hw4]; exact KeepsWalks.setCell _ _ _)
  clear hw4
  refine ⟨_, _, run_endRound none hL4, rfl, ⟨⟨_, (World.putObj_heap_other hBl).trans hv4, ?_, by simp⟩, World.putObj_heap_same hl4, (World.putObj_heap_other hDl).trans hK4, hb4.grown (grownBy_putObj_a _ _ _) hb4.size (fun k e => by cases e; exact h0l)⟩, hk4.trans (KeepsWalks.putObj _ hL4 rfl)⟩
  have := hrow4.kept (grownBy_putObj_a w4 l (.loop { { apRec fn sv Bs D .ready none with state := .busy } with state := if (none : Option Code).isNone then .ready else .done, pending := none })) (ownsRow_ne_a hrow4 hL4 (fun cur e => by cases e))
  rw [HXE.out] at this
  simpa using this
set_option maxRecDepth 100000 in
set_option maxHeartbeats 2000000 in
theorem ap_in (F : Fence) (n : Nat) (h11 : F.fn 124) (hro : F.round = none) (hn : 2 ≤ n) (g : Nat) (lb : Array Value) (hFg : F.fn g) (eg : ∀ args w, (callFunc g args).run Try.prog w = .ok (.enter g args) w)
    (S : List PtS → Prop) (N : Nat) (hN : N ≤ 1000000) (w : World) (hseq : SeqGives F (n - 1) Try.prog g lb encPV S N w) :
    CallsIn F n Try.prog 124 #[.slice none 0 0, .func (.func g) #[] lb] w fun e w' => ∃ (v : Value) (ss : List PtS), e = .returned v ∧ S ss ∧ w'.ownsRow w.heap.size 52 33 v ss.length (ss.flatMap encPt) ∧ (v = .slice none 0 0 ↔ ss = []) ∧ Below w.heap.size w w' := by
  have h1 : 1 ≤ n := by omega
  refine callsIn_of_wp_marks Try.func124 rfl h11 ?_ hro
  simp only [Try.ntmps124, List.size_toArray, List.length_cons, List.length_nil, Nat.reduceAdd, Nat.reduceSub, Array.replicate_succ, Array.replicate_zero, List.push_toArray, List.append_toArray, List.nil_append, List.cons_append]
  gi_wp2
  refine wpIn_rangeFunc ?_
  intro fn hfn
  rw [hro]
  obtain ⟨W0, hW0⟩ : ∃ W0, w.alloc (.cells #[.slice none 0 0] 56) = W0 := ⟨_, rfl⟩
  have hs0 : W0.heap.size = w.heap.size + 1 := by rw [← hW0]; simp
  have hv0 : W0.heap[w.heap.size]? = some (.cells #[.slice none 0 0] 56 (0, 0)) := by rw [← hW0]; exact World.alloc_heap_new w _
  have hb0 : Below w.heap.size w W0 := by rw [← hW0]; exact (Below.refl _ w).alloc (Nat.le_refl _) _
  rw [hW0]
  obtain ⟨W1, hW1⟩ : ∃ W1, (W0.alloc (.deferred (some []))).alloc (.loop (apRec fn (.func (.func g) #[] lb) w.heap.size W0.heap.size .ready none)) = W1 := ⟨_, rfl⟩
  have hold : ∀ k, k < W0.heap.size → W1.heap[k]? = W0.heap[k]? := fun k hk => by
    rw [← hW1]; exact (Below.heap_alloc _ _ k (by simp; omega)).trans (Below.heap_alloc _ _ k hk)
  have hb1 : Below w.heap.size w W1 := by rw [← hW1]; exact (hb0.alloc hb0.size _).alloc (by have := hb0.size; simp; omega) _
  have hs1 : W1.heap.size = W0.heap.size + 2 := by rw [← hW1]; simp
  have hM : ApAt w fn (.func (.func g) #[] lb) w.heap.size (W0.heap.size + 1) W0.heap.size [] W1 :=
    ⟨⟨_, (hold w.heap.size (by omega)).trans hv0, ⟨rfl, .inl ⟨rfl, rfl⟩⟩, by simp⟩,
     by rw [← hW1]; have := World.alloc_heap_new (W0.alloc (.deferred (some []))) (.loop (apRec fn (.func (.func g) #[] lb) w.heap.size W0.heap.size .ready none)); rwa [World.size_alloc] at this,
     by rw [← hW1]; exact (Below.heap_alloc _ _ _ (by simp)).trans (World.alloc_heap_new W0 _), hb1⟩
  refine ⟨W0.heap.size + 1, [{ target := .collected W0.heap.size, args := #[] }], W1, { target := .fn (.func g) lb, args := #[.func (.yield (W0.heap.size + 1)) #[] #[]] }, W1, g,
    #[.func (.yield (W0.heap.size + 1)) #[] #[]] ++ lb, W1, ?_, ?_, ?_, ?_, fun _ => h1, ?_⟩
  · rw [← hW1]; exact run_enterLoop_outer _ _ _ _ _
  · simp [resolve, go_sem]
  · intro f' hf'; simp [Target.leads] at hf'; subst hf'; exact hFg
  · simp [invoke, go_sem, eg]
  · refine (hseq (W0.heap.size + 1) (ApAt w fn (.func (.func g) #[] lb) w.heap.size (W0.heap.size + 1) W0.heap.size) W1 hb1 (ap_abides _ _ _ _ _ _ _ hb1.size)
      (fun pre x W hJ hl => ap_yield F (n - 1 - 1) w fn hfn _ w.heap.size (W0.heap.size + 1) W0.heap.size (by omega) (by omega) (by omega) (Nat.le_refl _) (by omega) N hN pre x W hJ hl) hM).mono ?_
    rintro e W2 ⟨⟨v0, rfl⟩, ss, hS, h2⟩
    obtain ⟨v, hv, hrow, hnil⟩ := h2.box
    have hend := run_endLoop (P := Try.prog) h2.L (by simp [apRec])
    obtain ⟨W3, hW3⟩ : ∃ W3, W2.putObj (W0.heap.size + 1) (.loop { apRec fn (.func (.func g) #[] lb) w.heap.size W0.heap.size .ready none with state := .exhausted }) = W3 := ⟨_, rfl⟩
    rw [hW3] at hend
    have hg3 : W2.grownBy W3 (some (W0.heap.size + 1)) := by rw [← hW3]; exact grownBy_putObj_a _ _ _
    have hv3 : W3.heap[w.heap.size]? = some (.cells #[v] 56 (0, 0)) := by rw [← hW3]; exact (World.putObj_heap_other (by omega)).trans hv
    have hK3 : W3.heap[W0.heap.size]? = some (.deferred (some [])) := by rw [← hW3]; exact (World.putObj_heap_other (by omega)).trans h2.K
    have hrow3 := hrow.kept hg3 (ownsRow_ne_a hrow h2.L (fun cur e => by cases e))
    have hb3 : Below w.heap.size w W3 := h2.below.grown hg3 h2.below.size (fun k e => by cases e; omega)
    obtain ⟨hc3, hf3⟩ := cell_of_box_a hv3
    clear hW3
    refine ⟨none, W3, hend, ?_⟩
    gi_wp2
    rw [← hs0]
    refine ⟨by simp, .inl ⟨_, _, rfl, run_takeDeferred hK3, ?_⟩⟩
    exact ⟨_, results_tmp rfl _ _ _, v, ss, rfl, hS, hrow3.kept (grownBy_putObj_a _ _ _) (ownsRow_ne_a hrow3 hK3 (fun cur e => by cases e)), hnil, hb3.grown (grownBy_putObj_a _ _ _) hb3.size (fun k e => by cases e; omega)⟩
set_option maxRecDepth 100000 in
set_option maxHeartbeats 1000000 in
theorem col_in (F : Fence) (n : Nat) (h8 : F.fn 110) (h11 : F.fn 124) (hro : F.round = none) (hn : 3 ≤ n) (g : Nat) (lb : Array Value) (hFg : F.fn g) (eg : ∀ args w, (callFunc g args).run Try.prog w = .ok (.enter g args) w)
    (S : List PtS → Prop) (N : Nat) (hN : N ≤ 1000000) (w : World) (hseq : SeqGives F (n - 1 - 1) Try.prog g lb encPV S N w) :
    CallsIn F n Try.prog 110 #[.func (.func g) #[] lb] w fun e w' => ∃ (v : Value) (ss : List PtS), e = .returned v ∧ S ss ∧ w'.ownsRow w.heap.size 52 33 v ss.length (ss.flatMap encPt) ∧ (v = .slice none 0 0 ↔ ss = []) ∧ Below w.heap.size w w' := by
  have h1 : 1 ≤ n := by omega
  have e11 : ∀ args w, (callFunc 124 args).run Try.prog w = .ok (.enter 124 args) w := enters_of Try.func124 (by kernel_rfl) rfl
  refine callsIn_of_wp Try.func110 rfl h8 ?_ hro
  simp only [Try.ntmps110, List.size_toArray, List.length_cons, List.length_nil, Nat.reduceAdd, Nat.reduceSub, Array.replicate_succ, Array.replicate_zero, List.push_toArray, List.append_toArray, List.nil_append, List.cons_append]
  gi_wp2_with (gi_at_call 124; refine (ap_in F (n - 1) h11 hro (by omega) g lb hFg eg S N hN _ hseq).mono ?_; rintro e w' ⟨v, ss, rfl, hS, hrow, hnil, hb⟩)
  go_ret
  exact ⟨v, ss, rfl, hS, hrow, hnil, hb⟩
end Go.Proofs.Ytolbbhbfbpiljaa

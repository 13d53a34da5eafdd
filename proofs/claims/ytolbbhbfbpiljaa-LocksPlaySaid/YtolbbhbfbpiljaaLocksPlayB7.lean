/- Locks in memory; contracts of locks.New, Len, Sum, Get. Printed by mklock.py. -/
import Derived.Test.YtolbbhbfbpiljaaLocksPlayB5
import Derived.Test.YtolbbhbfbpiljaaLocksPlayB4
import Derived.OpenShut
set_option linter.unusedSimpArgs false
/- Locks in memory; contracts of locks.New, Len, Sum, Get. Printed by mklock.py. -/
namespace Go.Proofs.Ytolbbhbfbpiljaa
open Go.RowKit
set_option linter.unusedVariables false
/-- A coin that is held, and for whom. -/
abbrev LockV := CoinV × List UInt8
def lockV (x : LockV) : List Value := coinV x.1 ++ x.2.map B
def LockOK (x : LockV) : Prop := CoinOK x.1 ∧ x.2.length = 32
def lockA (x : LockV) : Value := .agg (lockV x).toArray
def noLock : LockV := (noCoin, List.replicate 32 0)
theorem zero_lock : (Try.prog.info? 122).map (·.zero) = some (some (.agg (lockV noLock).toArray)) := by kernel_rfl
theorem row_lock : RowT Try.prog 122 65 := ⟨_, Try.underlying122, by kernel_rfl, by kernel_rfl⟩
theorem row_idk : RowT Try.prog 29 32 := ⟨_, Try.underlying29, by kernel_rfl, by kernel_rfl⟩
def zidV : List Value := (List.replicate 32 (0 : UInt8)).map B
theorem zero_idk : (Try.prog.info? 29).map (·.zero) = some (some (.agg zidV.toArray)) := by kernel_rfl
theorem zidV_len : zidV.length = 32 := by simp [zidV]
theorem lockV_length {x : LockV} (h : LockOK x) : (lockV x).length = 65 := by unfold lockV; rw [List.length_append, coinV_length h.1, List.length_map, h.2]
theorem lockV_one (x : LockV) : ∀ u ∈ lockV x, u.oneCell' = true := by
  intro u hu
  rcases List.mem_append.1 hu with h | h
  · exact coinV_one x.1 u h
  · obtain ⟨y, _, rfl⟩ := List.mem_map.1 h; rfl
theorem noLock_ok : LockOK noLock := ⟨noCoin_ok, by simp [noLock]⟩
theorem lock_coin {x : LockV} {j : Nat} {u : Value} (hu : (coinV x.1)[j]? = some u) : (lockV x)[0 + j]? = some u := by
  unfold lockV; rw [Nat.zero_add, List.getElem?_append_left (List.getElem?_eq_some_iff.1 hu).1]; exact hu
theorem lock_id {x : LockV} (h : LockOK x) {j : Nat} {u : Value} (hu : (x.2.map B)[j]? = some u) : (lockV x)[33 + j]? = some u := by
  unfold lockV; rw [List.getElem?_append_right (by rw [coinV_length h.1]; omega), coinV_length h.1, show 33 + j - 33 = j by omega]; exact hu
theorem mapB_one (l : List UInt8) : ∀ u ∈ l.map B, u.oneCell' = true := fun u hu => by obtain ⟨y, _, rfl⟩ := List.mem_map.1 hu; rfl
abbrev LocksL := List (PtK × LockV)
def encL (L : LocksL) : List (Value × Value) := L.map fun e => (ptA e.1, lockA e.2)
/-- What is known of the entries: right ones, each output once. -/
def LKOK (L : LocksL) : Prop := (∀ e ∈ L, PtOK e.1 ∧ LockOK e.2) ∧ (L.map (·.1)).Nodup
def lookL (L : LocksL) (p : PtK) : Option LockV := (L.find? (fun e => e.1 == p)).map (·.2)
/-- The coins' struct in block g, its map in block b. -/
structure LocksAt (w : World) (g b : Nat) (L : LocksL) (s : Int) : Prop where
  blk : Blk w g 120 [.map (some b), .int .u64 s]
  map : ∃ es clock, w.heap[b]? = some (.map es clock) ∧ MapOK Try.prog 52 es clock ∧ kvs es = encL L
  ok : LKOK L
  ne : g ≠ b
theorem LocksAt.below {w w' : World} {g b B : Nat} {L : LocksL} {s : Int} (h : LocksAt w g b L s) (hb : Below B w w') (h1 : g < B) (h2 : b < B) : LocksAt w' g b L s := by
  obtain ⟨hb1, ⟨es, clock, h3, h4, h5⟩, h6, h7⟩ := h
  exact ⟨hb1.below hb h1, ⟨es, clock, (hb.block b h2).trans h3, h4, h5⟩, h6, h7⟩
theorem LocksAt.ltg {w : World} {g b : Nat} {L : LocksL} {s : Int} (h : LocksAt w g b L s) : g < w.heap.size := h.blk.lt
theorem LocksAt.ltb {w : World} {g b : Nat} {L : LocksL} {s : Int} (h : LocksAt w g b L s) : b < w.heap.size := by
  obtain ⟨es, clock, h3, _⟩ := h.map
  exact (Array.getElem?_eq_some_iff.1 h3).1
theorem LocksAt.call {w w' : World} {g b : Nat} {L : LocksL} {s : Int} (h : LocksAt w g b L s) (hb : Below w.heap.size w w') : LocksAt w' g b L s := h.below hb h.ltg h.ltb

theorem zeroV_lock (w : World) : (zeroValue 122).run Try.prog w = .ok (lockA noLock) w := by
  obtain ⟨i, hi, hz⟩ := Option.map_eq_some_iff.1 zero_lock
  simp [zeroValue, typeInfo, hi, hz, lockA]
/-- The look of the Go code. -/
theorem LocksAt.look {w : World} {g b : Nat} {L : LocksL} {s : Int} (h : LocksAt w g b L s) {p : PtK} (hp : PtOK p) :
    ∃ c : LockV, LockOK c ∧ c = (lookL L p).getD noLock ∧ (Instr.lookup 118 (.map (some b)) (ptA p) true).run Try.prog w = .ok (.tuple #[lockA c, .bool (lookL L p).isSome]) w := by
  obtain ⟨hb1, ⟨es, clock, h3, h4, h5⟩, ⟨h6, h6'⟩, h7⟩ := h
  obtain ⟨lx, hx⟩ := keyOf_pt p hp
  unfold lookL
  cases hf : L.find? (fun e => e.1 == p) with
  | none =>
    refine ⟨noLock, noLock_ok, rfl, ?_⟩
    refine run_lookup_no kl_point Try.underlying118 h3 h4 hx ?_ zeroV_lock
    intro q hq e
    rw [h5] at hq
    obtain ⟨en, hen, rfl⟩ := List.mem_map.1 hq
    have := List.find?_eq_none.1 hf en hen
    exact this (by simpa using ptA_inj (h6 en hen).1.1 hp.1 e)
  | some en =>
    have hmem := List.mem_of_find?_eq_some hf
    have hkey : en.1 = p := by simpa using List.find?_some hf
    refine ⟨en.2, (h6 en hmem).2, rfl, ?_⟩
    obtain ⟨j, hj, hje⟩ := List.getElem_of_mem hmem
    have e1 : (kvs es)[j]? = some (ptA en.1, lockA en.2) := by rw [h5]; unfold encL; rw [List.getElem?_map, List.getElem?_eq_getElem hj, hje]; rfl
    unfold kvs at e1
    rw [List.getElem?_map] at e1
    obtain ⟨me, hme, hmm⟩ := Option.map_eq_some_iff.1 e1
    simp only [Prod.mk.injEq] at hmm
    have := run_lookup_yes kl_point Try.underlying118 h3 h4 hx (j := j) (en := me) (by simpa using hme) (by rw [hmm.1, hkey])
    rw [hmm.2] at this
    exact this


/-- The phases of two stores into two cells of the call's own. -/
def stoC (w0 : World) (g1 g2 : Nat) (t1 t2 : TypeId) (o1 o2 c1 c2 : List Value) (k : Nat) (w : World) : Prop :=
  Touched [g1, g2] w0 w ∧ w.heap.size = w0.heap.size ∧ Blk w g1 t1 (if k = 0 then o1 else c1) ∧ Blk w g2 t2 (if k ≤ 1 then o2 else c2)
section
variable {w0 w : World} {g1 g2 : Nat} {t1 t2 : TypeId} {o1 o2 c1 c2 : List Value}
theorem stoC.start (h1 : Blk w0 g1 t1 o1) (h2 : Blk w0 g2 t2 o2) : stoC w0 g1 g2 t1 t2 o1 o2 c1 c2 0 w0.drew :=
  ⟨Touched.of_below (Drawn.all (Drawn.one w0)), rfl, h1.call (Drawn.all (Drawn.one w0)), h2.call (Drawn.all (Drawn.one w0))⟩
theorem stoC.put1 {n : Nat} (hn : o1.length = n) (hg : g1 ≠ g2) (h : stoC w0 g1 g2 t1 t2 o1 o2 c1 c2 0 w) : ∃ old, Blk w g1 t1 old ∧ old.length = n ∧ ∀ w', Blk w' g1 t1 c1 → w.grownBy w' (some g1) → w'.heap.size = w.heap.size → stoC w0 g1 g2 t1 t2 o1 o2 c1 c2 1 w' := by
  obtain ⟨h1, h2, h3, h4⟩ := h
  exact ⟨o1, h3, hn, fun w' hb hgr hs => ⟨h1.grown hgr (.inl (by simp)), hs.trans h2, hb, h4.grown hgr (fun e => by injection e with e; exact hg e.symm)⟩⟩
theorem stoC.put2 {n : Nat} (hn : o2.length = n) (hg : g1 ≠ g2) (h : stoC w0 g1 g2 t1 t2 o1 o2 c1 c2 1 w) : ∃ old, Blk w g2 t2 old ∧ old.length = n ∧ ∀ w', Blk w' g2 t2 c2 → w.grownBy w' (some g2) → w'.heap.size = w.heap.size → stoC w0 g1 g2 t1 t2 o1 o2 c1 c2 2 w' := by
  obtain ⟨h1, h2, h3, h4⟩ := h
  exact ⟨o2, h4, hn, fun w' hb hgr hs => ⟨h1.grown hgr (.inl (by simp)), hs.trans h2, h3.grown hgr (fun e => by injection e with e; exact hg e), hb⟩⟩
end
section
variable {P : Program} {C : Nat → World → Prop} {M : List Nat} {R : List (Nat × Nat)} {ops : Array Oper} {Q : Act → Prop} {rest : List Oper} {i : Nat} {a : Act} {o : Oper}
theorem ph_loadmk {T : TypeId} {x : Operand} {n b off : Nat} {cs : List Value} (hM : M.contains i = false) (hw : Region.wanted o (yielded ops a.tmps) = true) (ho : o.op = .load T x) (hT : RowT P T n)
    (hb : ∀ k, phLo R i ≤ k → k ≤ phHi R i → ∀ w, C k w → ∀ j u, cs[j]? = some u → w.cell? ⟨b, off + j, none⟩ = some u) (hx : a.eval x = .pointer (some ⟨b, off, none⟩)) (hn : cs.length = n)
    (hk : ∀ K : Act → Prop, (∀ a, wpPhase P C M R ops Q rest (i + 1) a → K a) → K (a.put o.dst (.agg cs.toArray))) : wpPhase P C M R ops Q (o :: rest) i a := by
  refine ph_value hM hw (fun k h1 h2 w hC => ?_) hk
  obtain ⟨d, hu, hd, hi⟩ := hT
  have hrun := run_loadVar_mid (P := P) w b off T cs d (hb k h1 h2 w hC) hu (by cases d <;> simp_all) (by rw [hi, hn])
  unfold execOp
  simp only [ho, hx, Instr.loadAt, Instr.sureAddr, Sem.run_bind, Sem.run_pure, Result.andThen_ok, hrun]
end
theorem ret_cct {P : Program} {fn : Func} {a : Act} {w : World} {p p2 q : Tmp} {ty ty2 : TypeId} (h : fn.results = #[.cell p ty, .cell p2 ty2, .tmp q]) {n n2 : Nat} (hT : RowT P ty n) (hT2 : RowT P ty2 n2) {g g2 : Nat} {t t2 : TypeId} {cs cs2 : List Value} (hb : Blk w g t cs) (hb2 : Blk w g2 t2 cs2) (hp : a.tmps.getD p undef = .pointer (some ⟨g, 0, none⟩)) (hp2 : a.tmps.getD p2 undef = .pointer (some ⟨g2, 0, none⟩)) (hn : cs.length = n) (hn2 : cs2.length = n2)
    {v : Value} (hq : a.tmps.getD q undef = v) (hd : a.defers = [])
    {R : Ending → World → Prop} (hR : R (.returned (.tuple #[.agg cs.toArray, .agg cs2.toArray, v])) w) : bodyPost P fn R .ret a w := by
  obtain ⟨d, hu, hdd, hi⟩ := hT
  obtain ⟨d2, hu2, hdd2, hi2⟩ := hT2
  refine bodyPost_ret (v := .tuple #[.agg cs.toArray, .agg cs2.toArray, v]) ?_ hd hR
  have hp' : a.tmps[p]?.getD undef = .pointer (some ⟨g, 0, none⟩) := by simpa using hp
  have hp2' : a.tmps[p2]?.getD undef = .pointer (some ⟨g2, 0, none⟩) := by simpa using hp2
  have hq' : a.tmps[q]?.getD undef = v := by simpa using hq
  have hload := run_loadVar_row (P := P) w g t ty cs.toArray (0, 0) d hb hu (by revert hdd; cases d <;> simp) (by rw [hi]; simp [hn])
  have hload2 := run_loadVar_row (P := P) w g2 t2 ty2 cs2.toArray (0, 0) d2 hb2 hu2 (by revert hdd2; cases d2 <;> simp) (by rw [hi2]; simp [hn2])
  simp [results, h, hp', hp2', hq', asAddr, hload, hload2]
set_option maxRecDepth 100000 in
set_option maxHeartbeats 1000000 in
theorem kget_any (g b : Nat) (L : LocksL) (s : Int) (p : PtK) (w : World) (h : LocksAt w g b L s) (hp : PtOK p) :
    Calls Try.prog 25 #[.pointer (some ⟨g, 0, none⟩), ptA p] w fun e w' => e = .returned (.tuple #[.agg (((lookL L p).getD noLock).2.map B).toArray, coinA ((lookL L p).getD noLock).1, .bool (lookL L p).isSome]) ∧ Below w.heap.size w w' := by
  obtain ⟨c, hc, hce, -⟩ := h.look hp
  rw [← hce]
  obtain ⟨ok, hok⟩ : ∃ ok, ok = (lookL L p).isSome := ⟨_, rfl⟩
  rw [← hok]
  have hlk : ∀ w', LocksAt w' g b L s → (Instr.lookup 118 (.map (some b)) (ptA p) true).run Try.prog w' = .ok (.tuple #[lockA c, .bool ok]) w' := by
    intro w' h'
    obtain ⟨c', _, e, h2⟩ := h'.look hp
    rw [hce, ← e, hok]; exact h2
  have HLK := Lib.hid hlk
  have HC := Lib.hid h
  have HX := Lib.hid (ptV_length hp.1)
  have HCL := Lib.hid (lockV_length hc); have HC1 := Lib.hid (lockV_one c)
  have HKL := Lib.hid (coinV_length hc.1); have HK1 := Lib.hid (coinV_one c.1)
  have HIL := Lib.hid (show (c.2.map B).length = 32 by rw [List.length_map, hc.2]); have HI1 := Lib.hid (mapB_one c.2)
  have HPC := Lib.hid (fun j u => lock_coin (x := c) (j := j) (u := u)); have HPI := Lib.hid (fun j u => lock_id hc (j := j) (u := u))
  clear hok hce hc hp hlk
  obtain ⟨xs, hxs⟩ : ∃ xs, xs = ptV p := ⟨_, rfl⟩
  obtain ⟨cs, hcs⟩ : ∃ cs, cs = lockV c := ⟨_, rfl⟩
  obtain ⟨ks, hks⟩ : ∃ ks, ks = coinV c.1 := ⟨_, rfl⟩
  obtain ⟨is, his⟩ : ∃ is, is = c.2.map B := ⟨_, rfl⟩
  rw [coinA, ← hks, ← his]
  rw [lockA, ← hcs] at HLK
  rw [← hcs] at HCL HC1
  rw [← hks] at HKL HK1
  rw [← his] at HIL HI1
  rw [← hcs, ← hks] at HPC
  rw [← hcs, ← his] at HPI
  rw [ptA, ← hxs]
  rw [ptA, ← hxs] at HLK
  rw [← hxs] at HX
  clear hxs hcs hks his
  obtain ⟨z, hz⟩ : ∃ z, z = w.heap.size := ⟨_, rfl⟩
  have hg : g < z := by rw [hz]; exact h.ltg
  have hb : b < z := by rw [hz]; exact h.ltb
  have HZ := Lib.hid hz
  rw [← hz]
  clear h hz
  go_enter Try.func25, Try.ntmps25
  go_wp2_with (first | (with_reducible refine wpl_box (o := ⟨some 3, _, _, _, _, _⟩) rfl rfl rfl ?_))
  intro w1 hb1 hbw1 hsz1
  rw [← HZ.out] at hb1 hbw1 hsz1 ⊢
  go_wp2_with (first | (with_reducible refine wpl_alloc (o := ⟨some 4, _, _, _, _, _⟩) rfl rfl zero_idk ?_))
  intro w2 hb2 hbw2 hsz2
  have HB1 := Lib.hid (hb1.below hbw2 (by omega))
  have HBW := Lib.hid (hbw1.trans (hbw2.mono (by omega)))
  go_wp2_with (first | (with_reducible refine wpl_alloc (o := ⟨some 5, _, _, _, _, _⟩) rfl rfl zero_coin ?_))
  intro w3 hb3 hbw3 hsz3
  have HB1' := Lib.hid (HB1.out.below hbw3 (by omega))
  have HB2 := Lib.hid (hb2.below hbw3 (by omega))
  have HB3 := Lib.hid hb3
  have HBW3 := Lib.hid (HBW.out.trans (hbw3.mono (by omega)))
  have HC3 := Lib.hid (HC.out.below HBW3.out hg hb)
  have HSZ := Lib.hid hsz3
  clear hb1 hb2 hb3 hbw1 hbw2 hbw3 hsz1 hsz2 hsz3 HB1 HBW HC
  generalize hz1 : z + 1 = z1 at *
  generalize hz2 : z1 + 1 = z2 at *
  have HZ1 := Lib.hid (show z1 = z + 1 ∧ z2 = z + 2 by omega)
  clear hz1 hz2
  repeat' (first | (with_reducible refine wp_phase (id := 1) (newC w3 122 (lockV noLock) cs) [9, 10] [(0,2),(0,2),(0,2),(0,2),(0,2),(0,2),(0,2),(0,2),(0,2),(0,0),(1,1),(0,2)] (by kernel_rfl) (by kernel_rfl) ?_ ?_) | go_values | go_skip | go_guarded | go_step | go_upon | go_back)
  · exact newC.start
  have HF := Lib.hid (show ∀ k w', newC w3 122 (lockV noLock) cs k w' → w'.cell? ⟨g, 0, none⟩ = some (.map (some b)) from fun k w' h => (HC3.out.call (newC.low k w' h)).blk.at_ rfl)
  have HL := Lib.hid (show ∀ k w', newC w3 122 (lockV noLock) cs k w' → (Instr.lookup 118 (.map (some b)) (.agg xs.toArray) true).run Try.prog w' = .ok (.tuple #[.agg cs.toArray, .bool ok]) w' from fun k w' h => HLK.out w' (HC3.out.call (newC.low k w' h)))
  have HX1 := Lib.hid (show ∀ k w', newC w3 122 (lockV noLock) cs k w' → Blk w' z 52 xs from fun k w' h => HB1'.out.call (newC.low k w' h))
  refine ph_value rfl (by first | rfl | go_simp) (fun k_ _ _ w_ hC_ => by first | (go_simp; rfl) | (go_simp; done) | rfl) (fun K hK => ?_)
  go_simp
  refine hK _ ?_
  clear hK K
  refine ph_value rfl (by first | rfl | go_simp) (fun k_ _ _ w_ hC_ => by first | (go_simp; rfl) | (go_simp; done) | rfl) (fun K hK => ?_)
  go_simp
  refine hK _ ?_
  clear hK K
  refine ph_value rfl (by first | rfl | go_simp) (fun k_ _ _ w_ hC_ => by first | (go_simp; rfl) | (go_simp; done) | rfl) (fun K hK => ?_)
  go_simp
  refine hK _ ?_
  clear hK K
  refine ph_value rfl (by first | rfl | go_simp) (fun k_ _ _ w_ hC_ => by have c1 := HF.out _ _ hC_; first | (go_simp; rfl) | (go_simp; done) | rfl) (fun K hK => ?_)
  go_simp
  refine hK _ ?_
  clear hK K
  refine ph_load rfl rfl rfl row_point (fun k _ _ w h => HX1.out k w h) rfl HX.out ?_
  (intro K hK; go_simp; refine hK _ ?_; clear hK K)
  refine ph_value rfl (by first | rfl | go_simp) (fun k_ _ _ w_ hC_ => by have c1 := HL.out _ _ hC_; first | (go_simp; rfl) | (go_simp; done) | rfl) (fun K hK => ?_)
  go_simp
  refine hK _ ?_
  clear hK K
  refine ph_value rfl (by first | rfl | go_simp) (fun k_ _ _ w_ hC_ => by first | (go_simp; rfl) | (go_simp; done) | rfl) (fun K hK => ?_)
  go_simp
  refine hK _ ?_
  clear hK K
  refine ph_value rfl (by first | rfl | go_simp) (fun k_ _ _ w_ hC_ => by first | (go_simp; rfl) | (go_simp; done) | rfl) (fun K hK => ?_)
  go_simp
  refine hK _ ?_
  clear hK K
  refine ph_value rfl (by first | rfl | go_simp) (fun k_ _ _ w_ hC_ => by first | (go_simp; rfl) | (go_simp; done) | rfl) (fun K hK => ?_)
  go_simp
  refine hK _ ?_
  clear hK K
  refine ph_alloc 0 rfl rfl rfl rfl rfl zero_lock newC.lay ?_
  (intro K hK; go_simp; refine hK _ ?_; clear hK K)
  refine ph_store 1 rfl rfl rfl rfl rfl row_lock rfl rfl HCL.out HC1.out (newC.put (lockV_length noLock_ok)) ?_
  (intro K hK; go_simp; refine hK _ ?_; clear hK K)
  refine ph_value rfl (by first | rfl | go_simp) (fun k_ _ _ w_ hC_ => by first | (go_simp; rfl) | (go_simp; done) | rfl) (fun K hK => ?_)
  go_simp
  refine hK _ ?_
  clear hK K
  refine ph_nil ?_
  intro w4 ⟨hl4, hs4, hx4⟩
  have H4X := Lib.hid hx4
  have H4I := Lib.hid (HB2.out.call hl4)
  have H4C := Lib.hid (HB3.out.call hl4)
  have HL4 := Lib.hid (HBW3.out.trans (hl4.mono (by rw [HSZ.out]; have := HZ1.out; omega)))
  have HS4 := Lib.hid (show w4.heap.size = z + 4 by rw [hs4, HSZ.out]; have := HZ1.out; omega)
  have HG3 := Lib.hid (show w3.heap.size = z + 3 by rw [HSZ.out]; have := HZ1.out; omega)
  clear hl4 hs4 hx4 HF HL HX1 HC3 HB1' HB2 HB3 HBW3 HLK HSZ
  generalize hg3 : w3.heap.size = z3 at *
  have HZ3 := Lib.hid (show z3 = z + 3 from HG3.out)
  clear hg3 HG3
  go_wp2_with fail
  repeat' (first | (with_reducible refine wp_phase (id := 2) (stoC w4 z1 z2 29 54 zidV (coinV noCoin) is ks) [5, 6] [(0,0),(0,0),(0,1),(0,1),(0,2),(0,0),(1,1),(2,2)] (by kernel_rfl) (by kernel_rfl) ?_ ?_) | go_values | go_skip | go_guarded | go_step | go_upon | go_back)
  · exact stoC.start H4I.out H4C.out
  have HM := Lib.hid (show ∀ k w', stoC w4 z1 z2 29 54 zidV (coinV noCoin) is ks k w' → Blk w' z3 122 cs from fun k w' h => (h.1.block z3 H4X.out.lt (by have := HZ1.out; have := HZ3.out; simp; omega)).trans H4X.out)
  refine ph_value rfl (by first | rfl | go_simp) (fun k_ _ _ w_ hC_ => by first | (go_simp; rfl) | (go_simp; done) | rfl) (fun K hK => ?_)
  go_simp
  refine hK _ ?_
  clear hK K
  refine ph_loadmk rfl rfl rfl row_idk (fun k _ _ w h j u hu => (HM.out k w h).at_ (HPI.out j u hu)) rfl HIL.out ?_
  (intro K hK; go_simp; refine hK _ ?_; clear hK K)
  refine ph_value rfl (by first | rfl | go_simp) (fun k_ _ _ w_ hC_ => by first | (go_simp; rfl) | (go_simp; done) | rfl) (fun K hK => ?_)
  go_simp
  refine hK _ ?_
  clear hK K
  refine ph_loadmk rfl rfl rfl row_coin (fun k _ _ w h j u hu => (HM.out k w h).at_ (HPC.out j u hu)) rfl HKL.out ?_
  (intro K hK; go_simp; refine hK _ ?_; clear hK K)
  refine ph_value rfl (by first | rfl | go_simp) (fun k_ _ _ w_ hC_ => by first | (go_simp; rfl) | (go_simp; done) | rfl) (fun K hK => ?_)
  go_simp
  refine hK _ ?_
  clear hK K
  refine ph_store 0 rfl rfl rfl rfl rfl row_idk rfl rfl HIL.out HI1.out (fun w h => stoC.put1 zidV_len (by have := HZ1.out; omega) h) ?_
  (intro K hK; go_simp; refine hK _ ?_; clear hK K)
  refine ph_store 1 rfl rfl rfl rfl rfl row_coin rfl rfl HKL.out HK1.out (fun w h => stoC.put2 (coinV_length noCoin_ok) (by have := HZ1.out; omega) h) ?_
  (intro K hK; go_simp; refine hK _ ?_; clear hK K)
  refine ph_value rfl (by first | rfl | go_simp) (fun k_ _ _ w_ hC_ => by first | (go_simp; rfl) | (go_simp; done) | rfl) (fun K hK => ?_)
  go_simp
  refine hK _ ?_
  clear hK K
  refine ph_nil ?_
  intro w5 hC5
  have H5I := Lib.hid (show Blk w5 z1 29 is from hC5.2.2.1)
  have H5C := Lib.hid (show Blk w5 z2 54 ks from hC5.2.2.2)
  have HL5 := Lib.hid (HL4.out.trans (hC5.1.below (B := z) (by have := HZ1.out; simp; omega) (by have := HS4.out; omega)))
  clear hC5 HM
  go_wp2_with fail
  refine ret_cct rfl row_idk row_coin H5I.out H5C.out rfl rfl HIL.out HKL.out rfl rfl ?_
  exact ⟨rfl, HL5.out⟩
theorem knew_any (w : World) : Calls Try.prog 18 #[] w fun e w' => ∃ g b, e = .returned (.pointer (some ⟨g, 0, none⟩)) ∧ LocksAt w' g b [] 0 ∧ w.heap.size ≤ g ∧ w.heap.size ≤ b ∧ Below w.heap.size w w' := by
  have hmm : ∀ w, (Instr.makeMap 118 none).run Try.prog w = .ok (.map (some w.heap.size)) (w.alloc (.map #[] 0)) := fun w => rfl
  go_enter Try.func18, Try.ntmps18
  go_wp2
  go_ret
  refine ⟨w.heap.size + 1, w.heap.size, rfl, ⟨?_, ⟨#[], 0, ?_, MapOK.empty _ _ _, rfl⟩, ⟨by simp, by simp⟩, by omega⟩, by omega, by omega, ((Below.refl _ _).alloc (Nat.le_refl _) _).alloc (by simp) _⟩
  · have := heap_alloc_new (w.alloc (.map #[] 0)) (.cells #[.map (some w.heap.size), .int .u64 0] 120)
    simpa [Blk] using this
  · have h1 := heap_alloc_new w (.map #[] 0)
    have h2 := Below.heap_alloc (w.alloc (.map #[] 0)) (.cells #[.map (some w.heap.size), .int .u64 0] 120) w.heap.size (by simp)
    exact h2.trans h1
set_option maxRecDepth 100000 in
theorem klen_any (g b : Nat) (L : LocksL) (s : Int) (w : World) (h : LocksAt w g b L s) :
    Calls Try.prog 21 #[.pointer (some ⟨g, 0, none⟩)] w fun e w' => e = .returned (.int .i64 L.length) ∧ w = w' := by
  obtain ⟨hb1, ⟨es, clock, h3, h4, h5⟩, h6, h7⟩ := h
  have c1 : w.cell? ⟨g, 0, none⟩ = some (.map (some b)) := hb1.at_ rfl
  have e : es.size = L.length := by rw [← kvs_length, h5]; simp [encL]
  have hl := fun ty => run_len_map w 118 ty b es clock Try.underlying118 h3
  simp only [e] at hl
  clear hb1 h3 h4 h5 h6 h7 e
  go_enter Try.func21, Try.ntmps21
  go_wp2
  go_ret
  exact ⟨rfl, rfl⟩
set_option maxRecDepth 100000 in
theorem ksum_any (g b : Nat) (L : LocksL) (s : Int) (w : World) (h : LocksAt w g b L s) :
    Calls Try.prog 20 #[.pointer (some ⟨g, 0, none⟩)] w fun e w' => e = .returned (.int .u64 s) ∧ w = w' := by
  have c1 : w.cell? ⟨g, 1, none⟩ = some (.int .u64 s) := h.blk.at_ rfl
  clear h
  go_enter Try.func20, Try.ntmps20
  go_wp2
  go_ret
  exact ⟨rfl, rfl⟩
end Go.Proofs.Ytolbbhbfbpiljaa

/- The contract of locks.Put. Printed by mklock.py. -/
namespace Go.Proofs.Ytolbbhbfbpiljaa
open Go.RowKit
set_option linter.unusedVariables false
def putQ (L : LocksL) (s : Int) (p : PtK) (c : CoinV) : Int :=
  if p.2 < 0 ∨ 16 ≤ p.2 ∨ c.2 = 0 ∨ 4611686018427387904 < c.2 then 5 else if (lookL L p).isSome then 24 else if 64 ≤ L.length then 18 else (addE s c.2).2
theorem lookL_none {L : LocksL} {p : PtK} (h : (lookL L p).isSome = false) : ∀ e ∈ L, e.1 ≠ p := by
  intro e he hk
  unfold lookL at h
  cases hf : L.find? (fun e => e.1 == p) with
  | none => exact List.find?_eq_none.1 hf e he (by simpa using hk)
  | some x => rw [hf] at h; simp at h
theorem built_lock0 (parts : List (Nat × Value)) : Try.prog.built 122 parts = Instr.fill (fun i => (#[(0, 33), (33, 32)] : Array (Nat × Nat))[i]?) (lockV noLock).toArray parts := by kernel_rfl
theorem built_lock {x : LockV} (h : LockOK x) : Try.prog.built 122 [(0, .agg (coinV x.1).toArray), (1, .agg (x.2.map B).toArray)] = some (lockV x).toArray := by
  have l0 := lockV_length noLock_ok
  have l1 := coinV_length h.1
  have l2 : (x.2.map B).length = 32 := by rw [List.length_map, h.2]
  rw [built_lock0, fill_cons (off := 0) (s := 33) (cs := coinV x.1) rfl rfl l1 (by rw [l0]; omega), fill_cons (off := 33) (s := 32) (cs := x.2.map B) rfl rfl l2 (by unfold splice; simp only [List.length_append, List.length_take, List.length_drop, l0, l1]; omega), fill_nil]
  refine congrArg (fun l : List Value => some l.toArray) ?_
  rw [show lockV x = coinV x.1 ++ x.2.map B from rfl]
  unfold splice
  rw [l1, l2]
  have l3 : (List.drop (0 + 33) (lockV noLock)).length = 32 := by rw [List.length_drop, l0]
  rw [List.take_zero, List.nil_append, List.take_append_of_le_length (by omega), List.take_of_length_le (by omega), List.drop_of_length_le (by simp only [List.length_append]; omega), List.append_nil]
/-- The phases of 'm[p], sum = x, s2': the entry laid, filled, the sum written. -/
def putK (w0 : World) (g b : Nat) (es : Array MapEntry) (clock : Nat) (p : PtK) (c : LockV) (s s2 : Int) (k : Nat) (w : World) : Prop :=
  Touched [g, b] w0 w ∧ w.heap.size = w0.heap.size ∧
  w.heap[b]? = some (if k = 0 then .map es clock else if k = 1 then .map (es.push { key := ptA p, val := lockA noLock, born := clock }) (clock + 1)
    else .map ((es.push { key := ptA p, val := lockA noLock, born := clock }).modify es.size fun e => { e with val := lockA c }) (clock + 1)) ∧
  Blk w g 120 [.map (some b), .int .u64 (if k = 3 then s2 else s)]

section
variable {w0 w : World} {g b : Nat} {es : Array MapEntry} {clock : Nat} {p : PtK} {c : LockV} {s s2 : Int} {lx : Lit}
theorem putK.start (h1 : w0.heap[b]? = some (.map es clock)) (h2 : Blk w0 g 120 [.map (some b), .int .u64 s]) : putK w0 g b es clock p c s s2 0 w0.drew :=
  ⟨Touched.of_below (Drawn.all (Drawn.one w0)), rfl, h1, h2⟩
theorem putK.entry (h : putK w0 g b es clock p c s s2 0 w) (hgb : g ≠ b) : putK w0 g b es clock p c s s2 1 (withBlk w b (.map (es.push { key := ptA p, val := lockA noLock, born := clock }) (clock + 1))) := by
  obtain ⟨h1, h2, h3, h4⟩ := h
  exact ⟨h1.grown (withBlk_grown _ _ _) (.inl (by simp)), by rw [withBlk_size, h2], withBlk_heap h3, h4.grown (withBlk_grown _ _ _) (by simpa using hgb)⟩
theorem putK.fill (h : putK w0 g b es clock p c s s2 1 w) (hgb : g ≠ b) : putK w0 g b es clock p c s s2 2 (withBlk w b (.map ((es.push { key := ptA p, val := lockA noLock, born := clock }).modify es.size fun e => { e with val := lockA c }) (clock + 1))) := by
  obtain ⟨h1, h2, h3, h4⟩ := h
  exact ⟨h1.grown (withBlk_grown _ _ _) (.inl (by simp)), by rw [withBlk_size, h2], withBlk_heap h3, h4.grown (withBlk_grown _ _ _) (by simpa using hgb)⟩
theorem putK.sum (h : putK w0 g b es clock p c s s2 2 w) (hgb : g ≠ b) : putK w0 g b es clock p c s s2 3 (w.setCell ⟨g, 1, none⟩ (.int .u64 s2)) := by
  obtain ⟨h1, h2, h3, h4⟩ := h
  exact ⟨h1.grown (grown_set w g 1 _) (.inl (by simp)), by simpa using h2, ((grown_set w g 1 (.int .u64 s2)).block b (Array.getElem?_eq_some_iff.1 h3).1 (by simpa using fun e => hgb e.symm)).trans h3, h4.set_ 1 (.int .u64 s2)⟩
theorem putK.run0 (h : putK w0 g b es clock p c s s2 0 w) (hm : MapOK Try.prog 52 es clock) (hx : keyOf Try.prog 52 (ptA p) = some lx) (hno : ∀ q ∈ kvs es, q.1 ≠ ptA p) :
    (Instr.mapEntry 118 (.map (some b)) (ptA p)).run Try.prog w = .ok (.tuple #[lockA noLock, goInt clock]) (withBlk w b (.map (es.push { key := ptA p, val := lockA noLock, born := clock }) (clock + 1))) :=
  run_mapEntry_no kl_point Try.underlying118 h.2.2.1 hm hx hno zeroV_lock
theorem putK.run1 (h : putK w0 g b es clock p c s s2 1 w) (hm : MapOK Try.prog 52 es clock) (hx : keyOf Try.prog 52 (ptA p) = some lx) (hno : ∀ q ∈ kvs es, q.1 ≠ ptA p) :
    (Instr.entryStore 118 (.map (some b)) (.int .i64 clock) (lockA c)).run Try.prog w = .ok () (withBlk w b (.map ((es.push { key := ptA p, val := lockA noLock, born := clock }).modify es.size fun e => { e with val := lockA c }) (clock + 1))) :=
  run_entryStore Try.underlying118 h.2.2.1 (hm.push hx hno _) (j := es.size) (en := { key := ptA p, val := lockA noLock, born := clock }) (by simp) (lockA c)
theorem putK.done {L : LocksL} (h : putK w0 g b es clock p c s s2 3 w) (hgb : g ≠ b) (hm : MapOK Try.prog 52 es clock) (hx : keyOf Try.prog 52 (ptA p) = some lx) (hno : ∀ q ∈ kvs es, q.1 ≠ ptA p) (hL : kvs es = encL L) (hLO : LKOK (L ++ [(p, c)])) :
    LocksAt w g b (L ++ [(p, c)]) s2 := by
  obtain ⟨h1, h2, h3, h4⟩ := h
  refine ⟨h4, ⟨_, _, h3, (hm.push hx hno _).modify _ _, ?_⟩, hLO, hgb⟩
  rw [kvs_modify (en := { key := ptA p, val := lockA noLock, born := clock }) (by simp), kvs_push, hL]
  have : es.size = (encL L).length := by rw [← hL, kvs_length]
  rw [this]
  simp [encL]
end


set_option maxRecDepth 100000 in
set_option maxHeartbeats 4000000 in
theorem kput_any (g b : Nat) (L : LocksL) (s : Int) (p : PtK) (id : List UInt8) (c : CoinV) (w : World) (h : LocksAt w g b L s) (hp : PtOK p) (hi : id.length = 32) (hc : CoinOK c) (hs0 : 0 ≤ s) (hs1 : s ≤ 4611686018427387904) :
    Calls Try.prog 19 #[.pointer (some ⟨g, 0, none⟩), ptA p, .agg (id.map B).toArray, coinA c] w fun e w' => e = .returned (.int .i64 (putQ L s p c)) ∧ Touched [g, b] w w' ∧
      (putQ L s p c = 0 → LocksAt w' g b (L ++ [(p, (c, id))]) (addE s c.2).1) ∧ (putQ L s p c ≠ 0 → LocksAt w' g b L s) := by
  obtain ⟨d, hd, hde, -⟩ := h.look hp
  obtain ⟨ok, hok⟩ : ∃ ok, ok = (lookL L p).isSome := ⟨_, rfl⟩
  have hlk : ∀ w', LocksAt w' g b L s → (Instr.lookup 118 (.map (some b)) (ptA p) true).run Try.prog w' = .ok (.tuple #[lockA d, .bool ok]) w' := by
    intro w' h'
    obtain ⟨c', _, e, h2⟩ := h'.look hp
    rw [hde, ← e, hok]; exact h2
  have HLK := Lib.hid hlk
  have HC := Lib.hid h
  have HP := Lib.hid hp
  obtain ⟨lk, hlkv⟩ : ∃ q : LockV, q = (c, id) := ⟨_, rfl⟩
  have hlo : LockOK lk := by rw [hlkv]; exact ⟨hc, hi⟩
  have HCO := Lib.hid hlo
  have HX := Lib.hid (ptV_length hp.1)
  have HY := Lib.hid (coinV_length hc)
  have HIL := Lib.hid (show (id.map B).length = 32 by rw [List.length_map, hi])
  have HLL := Lib.hid (lockV_length hlo); have HL1 := Lib.hid (lockV_one lk)
  have HBL := Lib.hid (show Try.prog.built 122 [(0, .agg (coinV c).toArray), (1, .agg (id.map B).toArray)] = some (lockV lk).toArray by have := built_lock hlo; rw [hlkv] at this ⊢; exact this)
  have HDL := Lib.hid (lockV_length hd)
  have HD1 := Lib.hid (lockV_one d)
  have HOK := Lib.hid hok
  have HPI := Lib.hid (ptV_ix hp.1)
  have HCI := Lib.hid (show (lockV lk)[32]? = some (.int .u64 c.2) by
    have h1 : (coinV c)[32]? = some (.int .u64 c.2) := by unfold coinV; rw [List.getElem?_append_right (by simp [hc.1])]; simp [hc.1]
    have := lock_coin (x := lk) (j := 32) (by rw [hlkv]; exact h1)
    simpa using this)
  have hpw := bounds_i64 hp.2
  have hc0 := hc.2.1
  have hc1 := hc.2.2
  obtain ⟨r, hr⟩ : ∃ r, r = putQ L s p c := ⟨_, rfl⟩
  rw [← hr]
  have HR := Lib.hid hr
  rw [← hlkv]
  clear hok hde hc hp hlk hd hr hi hlo hlkv
  obtain ⟨xs, hxs⟩ : ∃ xs, xs = ptV p := ⟨_, rfl⟩
  obtain ⟨ks, hks⟩ : ∃ ks, ks = coinV c := ⟨_, rfl⟩
  obtain ⟨is, his⟩ : ∃ is, is = id.map B := ⟨_, rfl⟩
  obtain ⟨ys, hys⟩ : ∃ ys, ys = lockV lk := ⟨_, rfl⟩
  obtain ⟨cs, hcs⟩ : ∃ cs, cs = lockV d := ⟨_, rfl⟩
  rw [lockA, ← hcs] at HLK
  rw [← hcs] at HDL HD1
  rw [ptA, ← hxs, coinA, ← hks, ← his]
  rw [ptA, ← hxs] at HLK
  rw [← hxs] at HX HPI
  rw [← hks] at HY
  rw [← his] at HIL
  rw [← hys] at HLL HL1 HCI
  rw [← hks, ← his, ← hys] at HBL
  have HXE := Lib.hid hxs
  have HYE := Lib.hid hys
  clear hxs hcs hys hks his
  obtain ⟨z, hz⟩ : ∃ z, z = w.heap.size := ⟨_, rfl⟩
  have hg : g < z := by rw [hz]; exact h.ltg
  have hb : b < z := by rw [hz]; exact h.ltb
  have HZ := Lib.hid hz
  have hal := addE_bd s c.2 hs0 hc0
  have ha := fun w => cadd_any s c.2 w hs0 hc0
  obtain ⟨ae, hae⟩ : ∃ ae, ae = addE s c.2 := ⟨_, rfl⟩
  rw [← hae] at hal ha ⊢
  have HAE := Lib.hid hae
  have HA := Lib.hid ha
  obtain ⟨pi, hpi⟩ : ∃ pi, pi = p.2 := ⟨_, rfl⟩
  obtain ⟨ci, hci⟩ : ∃ ci, ci = c.2 := ⟨_, rfl⟩
  rw [← hpi] at HPI hpw
  rw [← hci] at HCI hc0 hc1 HA
  have HPE := Lib.hid hpi
  have HCE := Lib.hid hci
  obtain ⟨s2, ec⟩ := ae
  simp only at HA hal
  clear h hz ha hae hpi hci
  go_enter Try.func19, Try.ntmps19
  go_wp2_with (first | (with_reducible refine wpl_box (o := ⟨some 5, _, _, _, _, _⟩) rfl rfl rfl ?_))
  intro w1 hb1 hbw1 hsz1
  rw [← HZ.out] at hb1 hbw1 hsz1 ⊢
  go_wp2_with (first | (with_reducible refine wpl_box (o := ⟨some 6, _, _, _, _, _⟩) rfl rfl rfl ?_))
  intro w2 hb2 hbw2 hsz2
  have HB1 := Lib.hid (hb1.below hbw2 (by omega))
  have HBW := Lib.hid (hbw1.trans (hbw2.mono (by omega)))
  go_wp2_with (first | (with_reducible refine wpl_box (o := ⟨some 7, _, _, _, _, _⟩) rfl rfl rfl ?_))
  intro w3 hb3 hbw3 hsz3
  have HB1' := Lib.hid (HB1.out.below hbw3 (by omega))
  have HB2 := Lib.hid (hb2.below hbw3 (by omega))
  have HB3 := Lib.hid hb3
  have HBW3 := Lib.hid (HBW.out.trans (hbw3.mono (by omega)))
  have HS3 := Lib.hid (show w3.heap.size = z + 3 by omega)
  have HC3 := Lib.hid (HC.out.below HBW3.out hg hb)
  clear hb1 hb2 hb3 hbw1 hbw2 hbw3 hsz1 hsz2 hsz3 HB1 HBW HC
  generalize hz1 : z + 1 = z1 at *
  generalize hz2 : z1 + 1 = z2 at *
  have HZ1 := Lib.hid (show z1 = z + 1 ∧ z2 = z + 2 by omega)
  clear hz1 hz2
  go_wp2_with (first | (with_reducible refine wpl_loadb (o := ⟨some 14, _, _, _, _, _⟩) rfl rfl row_coin HB3.out rfl HY.out ?_) | (with_reducible refine wpl_loadb (o := ⟨some 15, _, _, _, _, _⟩) rfl rfl row_idk HB2.out rfl HIL.out ?_) | (refine wpl_build (o := ⟨some 16, _, _, _, _, _⟩) rfl rfl HBL.out ?_) | (with_reducible refine wpl_alloc (o := ⟨some 9, _, _, _, _, _⟩) rfl rfl zero_lock ?_))
  intro w4 hb4 hbw4 hsz4
  have HB4 := Lib.hid hb4
  have HP4 := Lib.hid (HB1'.out.call hbw4)
  have HC4 := Lib.hid (HC3.out.call hbw4)
  have HBW4 := Lib.hid (HBW3.out.trans (hbw4.mono (by have := HS3.out; omega)))
  have HS4 := Lib.hid (show w4.heap.size = z + 4 by have := HS3.out; omega)
  clear hb4 hbw4 hsz4 HB1' HB2 HB3 HC3 HBW3
  generalize hz3 : w3.heap.size = z3 at *
  have HZ3 := Lib.hid (show z3 = z + 3 from HS3.out)
  clear hz3 HS3
  go_wp2_with (first | (with_reducible refine wpl_storeb (o := ⟨none, .store _ _ _, _, _, _, _⟩) rfl rfl row_lock HB4.out rfl rfl (lockV_length noLock_ok) HLL.out HL1.out ?_))
  intro w5 hb5 hg5 hs5
  have HX5 := Lib.hid hb5
  have HP5 := Lib.hid (HP4.out.grown hg5 (by have := HZ3.out; simp; omega))
  have HC5 := Lib.hid (show LocksAt w5 g b L s from by
    obtain ⟨q1, ⟨e1, c1, q2, q3, q4⟩, q5, q6⟩ := HC4.out
    have := HZ3.out
    exact ⟨q1.grown hg5 (by simp; omega), ⟨e1, c1, (hg5.block b (Array.getElem?_eq_some_iff.1 q2).1 (by simp; omega)).trans q2, q3, q4⟩, q5, q6⟩)
  have HL5 := Lib.hid (HBW4.out.grown hg5 (by have := HS4.out; omega) (fun k hk => by cases hk; have := HZ3.out; omega))
  have HS5 := Lib.hid (show w5.heap.size = z + 4 by rw [hs5]; exact HS4.out)
  have HT5 := Lib.hid (Touched.of_below (l := [g, b]) (show Below w.heap.size w w5 by rw [← HZ.out]; exact HL5.out))
  clear hb5 hg5 hs5 HB4 HP4 HC4 HBW4 HS4
  have c1 := HP5.out.at_ HPI.out
  have c2 := HX5.out.at_ HCI.out
  by_cases h1 : pi < 0
  · have e : r = 5 := by rw [HR.out, putQ, if_pos (.inl (by rw [← HPE.out]; exact h1))]
    have HE := Lib.hid e; clear e
    go_wp2_with fail
    go_ret
    exact ⟨ret_int HE.out.symm, HT5.out, fun h => by have := HE.out; omega, fun _ => HC5.out⟩
  by_cases h2 : 16 ≤ pi
  · have e : r = 5 := by rw [HR.out, putQ, if_pos (.inr (.inl (by rw [← HPE.out]; exact h2)))]
    have HE := Lib.hid e; clear e
    go_wp2_with fail
    go_ret
    exact ⟨ret_int HE.out.symm, HT5.out, fun h => by have := HE.out; omega, fun _ => HC5.out⟩
  by_cases h3 : ci = 0
  · have e : r = 5 := by rw [HR.out, putQ, if_pos (.inr (.inr (.inl (by rw [← HCE.out]; exact h3))))]
    have HE := Lib.hid e; clear e
    have hb3 : (ci == 0) = true := by simpa using h3
    clear h3
    go_wp2_with fail
    go_ret
    exact ⟨ret_int HE.out.symm, HT5.out, fun h => by have := HE.out; omega, fun _ => HC5.out⟩
  have hb3 : (ci == 0) = false := beq_eq_false_iff_ne.2 h3
  by_cases h4 : 4611686018427387904 < ci
  · have e : r = 5 := by rw [HR.out, putQ, if_pos (.inr (.inr (.inr (by rw [← HCE.out]; exact h4))))]
    have HE := Lib.hid e; clear e
    clear h3
    go_wp2_with fail
    go_ret
    exact ⟨ret_int HE.out.symm, HT5.out, fun h => by have := HE.out; omega, fun _ => HC5.out⟩
  have HN := Lib.hid (show ¬ (p.2 < 0 ∨ 16 ≤ p.2 ∨ c.2 = 0 ∨ 4611686018427387904 < c.2) by rw [← HPE.out, ← HCE.out]; omega)
  clear h3
  go_wp2_with fail
  repeat' (first | (with_reducible refine wp_phase (id := 4) (newC w5 122 (lockV noLock) cs) [9, 10] [(0,2),(0,2),(0,2),(0,2),(0,2),(0,2),(0,2),(0,2),(0,2),(0,0),(1,1),(0,2)] (by kernel_rfl) (by kernel_rfl) ?_ ?_) | go_values | go_skip | go_guarded | go_step | go_upon | go_back)
  · exact newC.start
  have HF := Lib.hid (show ∀ k w', newC w5 122 (lockV noLock) cs k w' → w'.cell? ⟨g, 0, none⟩ = some (.map (some b)) from fun k w' h => (HC5.out.call (newC.low k w' h)).blk.at_ rfl)
  have HL := Lib.hid (show ∀ k w', newC w5 122 (lockV noLock) cs k w' → (Instr.lookup 118 (.map (some b)) (.agg xs.toArray) true).run Try.prog w' = .ok (.tuple #[.agg cs.toArray, .bool ok]) w' from fun k w' h => HLK.out w' (HC5.out.call (newC.low k w' h)))
  have HX1 := Lib.hid (show ∀ k w', newC w5 122 (lockV noLock) cs k w' → Blk w' z 52 xs from fun k w' h => HP5.out.call (newC.low k w' h))
  clear c1 c2
  refine ph_value rfl (by first | rfl | go_simp) (fun k_ _ _ w_ hC_ => by first | (go_simp; rfl) | (go_simp; done) | rfl) (fun K hK => ?_)
  go_simp
  refine hK _ ?_
  clear hK K
  refine ph_value rfl (by first | rfl | go_simp) (fun k_ _ _ w_ hC_ => by first | (go_simp; rfl) | (go_simp; done) | rfl) (fun K hK => ?_)
  go_simp
  refine hK _ ?_
  clear hK K
  refine ph_value rfl (by first | rfl | go_simp) (fun k_ _ _ w_ hC_ => by first | (go_simp; rfl) | (go_simp; done) | rfl) (fun K hK => ?_)
  go_simp
  refine hK _ ?_
  clear hK K
  refine ph_value rfl (by first | rfl | go_simp) (fun k_ _ _ w_ hC_ => by have c1 := HF.out _ _ hC_; first | (go_simp; rfl) | (go_simp; done) | rfl) (fun K hK => ?_)
  go_simp
  refine hK _ ?_
  clear hK K
  refine ph_load rfl rfl rfl row_point (fun k _ _ w h => HX1.out k w h) rfl HX.out ?_
  (intro K hK; go_simp; refine hK _ ?_; clear hK K)
  refine ph_value rfl (by first | rfl | go_simp) (fun k_ _ _ w_ hC_ => by have c1 := HL.out _ _ hC_; first | (go_simp; rfl) | (go_simp; done) | rfl) (fun K hK => ?_)
  go_simp
  refine hK _ ?_
  clear hK K
  refine ph_value rfl (by first | rfl | go_simp) (fun k_ _ _ w_ hC_ => by first | (go_simp; rfl) | (go_simp; done) | rfl) (fun K hK => ?_)
  go_simp
  refine hK _ ?_
  clear hK K
  refine ph_value rfl (by first | rfl | go_simp) (fun k_ _ _ w_ hC_ => by first | (go_simp; rfl) | (go_simp; done) | rfl) (fun K hK => ?_)
  go_simp
  refine hK _ ?_
  clear hK K
  refine ph_value rfl (by first | rfl | go_simp) (fun k_ _ _ w_ hC_ => by first | (go_simp; rfl) | (go_simp; done) | rfl) (fun K hK => ?_)
  go_simp
  refine hK _ ?_
  clear hK K
  refine ph_alloc 0 rfl rfl rfl rfl rfl zero_lock newC.lay ?_
  (intro K hK; go_simp; refine hK _ ?_; clear hK K)
  refine ph_store 1 rfl rfl rfl rfl rfl row_lock rfl rfl HDL.out HD1.out (newC.put (lockV_length noLock_ok)) ?_
  (intro K hK; go_simp; refine hK _ ?_; clear hK K)
  refine ph_value rfl (by first | rfl | go_simp) (fun k_ _ _ w_ hC_ => by first | (go_simp; rfl) | (go_simp; done) | rfl) (fun K hK => ?_)
  go_simp
  refine hK _ ?_
  clear hK K
  refine ph_nil ?_
  intro w6 ⟨hl6, hs6, hx6⟩
  have HX6 := Lib.hid (HX5.out.call hl6)
  have HP6 := Lib.hid (HP5.out.call hl6)
  have HC6 := Lib.hid (HC5.out.call hl6)
  have HT6 := Lib.hid (HT5.out.step hl6)
  clear hl6 hs6 hx6 HF HL HX1 HX5 HP5 HC5 HT5 HLK
  generalize w5.heap.size = xa at *
  cases ok
  case true =>
    have e : r = 24 := by rw [HR.out, putQ, if_neg HN.out, ← HOK.out, if_pos rfl]
    have HE := Lib.hid e; clear e
    go_wp2_with fail
    go_ret
    exact ⟨ret_int HE.out.symm, HT6.out, fun h => by have := HE.out; omega, fun _ => HC6.out⟩
  case false =>
    have c3 : w6.cell? ⟨g, 0, none⟩ = some (.map (some b)) := HC6.out.blk.at_ rfl
    obtain ⟨es, clock, hm1, hm2, hm3⟩ := HC6.out.map
    have ee : es.size = L.length := by rw [← kvs_length, hm3]; simp [encL]
    have hl := fun ty => run_len_map w6 118 ty b es clock Try.underlying118 hm1
    simp only [ee] at hl
    obtain ⟨n, hn⟩ : ∃ n, n = L.length := ⟨_, rfl⟩
    rw [← hn] at hl
    have HNL := Lib.hid hn
    clear hm1 hm2 hm3 ee hn
    by_cases h5 : 64 ≤ n
    · have e : r = 18 := by rw [HR.out, putQ, if_neg HN.out, ← HOK.out, if_neg (by simp), ← HNL.out, if_pos h5]
      have HE := Lib.hid e; clear e
      go_wp2_with fail
      go_ret
      exact ⟨ret_int HE.out.symm, HT6.out, fun h => by have := HE.out; omega, fun _ => HC6.out⟩
    have e : r = ec := by rw [HR.out, putQ, if_neg HN.out, ← HOK.out, if_neg (by simp), ← HNL.out, if_neg h5, ← HAE.out]
    have HE := Lib.hid e; clear e
    go_wp2_with fail
    clear hl c3
    repeat' (first | (with_reducible refine wp_phase (id := 9) (fun (_ : Nat) w' => Below w6.heap.size w6 w') [] [(0,0),(0,0),(0,0),(0,0),(0,0),(0,0),(0,0),(0,0),(0,0),(0,0),(0,0),(0,0),(0,0)] (by kernel_rfl) (by kernel_rfl) ?_ ?_) | go_values | go_skip | go_guarded | go_step | go_upon | go_back)
    · exact Drawn.all (Drawn.one w6)
    have HF1 := Lib.hid (show ∀ w', Below w6.heap.size w6 w' → w'.cell? ⟨g, 1, none⟩ = some (.int .u64 s) from fun w' h => (HC6.out.call h).blk.at_ rfl)
    have HF2 := Lib.hid (show ∀ w', Below w6.heap.size w6 w' → w'.cell? ⟨z3, 32, none⟩ = some (.int .u64 ci) from fun w' h => (HX6.out.call h).at_ HCI.out)
    refine ph_value rfl (by first | rfl | go_simp) (fun k_ _ _ w_ hC_ => by first | (go_simp; rfl) | (go_simp; done) | rfl) (fun K hK => ?_)
    go_simp
    refine hK _ ?_
    clear hK K
    refine ph_value rfl (by first | rfl | go_simp) (fun k_ _ _ w_ hC_ => by first | (go_simp; rfl) | (go_simp; done) | rfl) (fun K hK => ?_)
    go_simp
    refine hK _ ?_
    clear hK K
    refine ph_value rfl (by first | rfl | go_simp) (fun k_ _ _ w_ hC_ => by first | (go_simp; rfl) | (go_simp; done) | rfl) (fun K hK => ?_)
    go_simp
    refine hK _ ?_
    clear hK K
    refine ph_value rfl (by first | rfl | go_simp) (fun k_ _ _ w_ hC_ => by have c1 := HF1.out _ hC_; first | (go_simp; rfl) | (go_simp; done) | rfl) (fun K hK => ?_)
    go_simp
    refine hK _ ?_
    clear hK K
    refine ph_value rfl (by first | rfl | go_simp) (fun k_ _ _ w_ hC_ => by first | (go_simp; rfl) | (go_simp; done) | rfl) (fun K hK => ?_)
    go_simp
    refine hK _ ?_
    clear hK K
    refine ph_value rfl (by first | rfl | go_simp) (fun k_ _ _ w_ hC_ => by first | (go_simp; rfl) | (go_simp; done) | rfl) (fun K hK => ?_)
    go_simp
    refine hK _ ?_
    clear hK K
    refine ph_value rfl (by first | rfl | go_simp) (fun k_ _ _ w_ hC_ => by have c1 := HF2.out _ hC_; first | (go_simp; rfl) | (go_simp; done) | rfl) (fun K hK => ?_)
    go_simp
    refine hK _ ?_
    clear hK K
    refine ph_call rfl (by first | rfl | go_simp) (fun w => by first | rfl | (go_simp; rfl) | go_simp) (fun k _ _ w h => (HA.out w).mono fun e w' ⟨he, hb⟩ => ⟨he, below_step h h.size hb⟩) ?_
    (intro K hK; go_simp; refine hK _ ?_; clear hK K)
    refine ph_value rfl (by first | rfl | go_simp) (fun k_ _ _ w_ hC_ => by first | (go_simp; rfl) | (go_simp; done) | rfl) (fun K hK => ?_)
    go_simp
    refine hK _ ?_
    clear hK K
    refine ph_value rfl (by first | rfl | go_simp) (fun k_ _ _ w_ hC_ => by first | (go_simp; rfl) | (go_simp; done) | rfl) (fun K hK => ?_)
    go_simp
    refine hK _ ?_
    clear hK K
    refine ph_value rfl (by first | rfl | go_simp) (fun k_ _ _ w_ hC_ => by first | (go_simp; rfl) | (go_simp; done) | rfl) (fun K hK => ?_)
    go_simp
    refine hK _ ?_
    clear hK K
    refine ph_value rfl (by first | rfl | go_simp) (fun k_ _ _ w_ hC_ => by first | (go_simp; rfl) | (go_simp; done) | rfl) (fun K hK => ?_)
    go_simp
    refine hK _ ?_
    clear hK K
    refine ph_value rfl (by first | rfl | go_simp) (fun k_ _ _ w_ hC_ => by first | (go_simp; rfl) | (go_simp; done) | rfl) (fun K hK => ?_)
    go_simp
    refine hK _ ?_
    clear hK K
    refine ph_nil ?_
    intro w7 hl7
    have HX7 := Lib.hid (HX6.out.call hl7)
    have HP7 := Lib.hid (HP6.out.call hl7)
    have HC7 := Lib.hid (HC6.out.call hl7)
    have HT7 := Lib.hid (HT6.out.step hl7)
    clear HF1 HF2 hl7 HX6 HP6 HC6 HT6
    by_cases h6 : ec = 0
    · have hb6 : (ec != 0) = false := bne_eq_false_iff_eq.2 h6
      have hb7 : (ec == 0) = true := by simpa using h6
      have H6 := Lib.hid h6
      clear h6
      obtain ⟨es, clock, hm1, hm2, hm3⟩ := HC7.out.map
      have HM1 := Lib.hid hm1; have HM2 := Lib.hid hm2; have HM3 := Lib.hid hm3
      clear hm1 hm2 hm3
      obtain ⟨lx, hx⟩ := keyOf_pt p HP.out
      have hno : ∀ q ∈ kvs es, q.1 ≠ ptA p := by
        intro q hq e
        rw [HM3.out] at hq
        obtain ⟨en, hen, rfl⟩ := List.mem_map.1 hq
        exact lookL_none HOK.out.symm en hen (ptA_inj (HC7.out.ok.1 en hen).1.1 HP.out.1 e)
      have hlo : LKOK (L ++ [(p, lk)]) := by
        refine ⟨fun e he => ?_, ?_⟩
        · rcases List.mem_append.1 he with he | he
          · exact HC7.out.ok.1 e he
          · have : e = (p, lk) := by simpa using he
            subst this; exact ⟨HP.out, HCO.out⟩
        · rw [List.map_append, List.nodup_append]
          refine ⟨HC7.out.ok.2, by simp, fun a ha b' hb' e => ?_⟩
          obtain ⟨en, hen, rfl⟩ := List.mem_map.1 ha
          have hb2 : b' = p := by simpa using hb'
          exact lookL_none HOK.out.symm en hen (e.trans hb2)
      have HXK := Lib.hid hx; have HNO := Lib.hid hno; have HLO := Lib.hid hlo
      clear hx hno hlo
      have HGB := Lib.hid HC7.out.ne
      go_wp2_with fail
      repeat' (first | (with_reducible refine wp_phase (id := 11) (putK w7 g b es clock p lk s s2) [8, 10, 13] [(0,3),(0,3),(0,3),(0,3),(0,3),(0,3),(0,3),(0,3),(0,0),(0,3),(1,1),(0,3),(0,3),(2,2)] (by kernel_rfl) (by kernel_rfl) ?_ ?_) | go_values | go_skip | go_guarded | go_step | go_upon | go_back)
      · exact putK.start HM1.out HC7.out.blk
      have HF := Lib.hid (show ∀ k w', putK w7 g b es clock p lk s s2 k w' → w'.cell? ⟨g, 0, none⟩ = some (.map (some b)) from fun k w' h => h.2.2.2.at_ rfl)
      have HX1 := Lib.hid (show ∀ k w', putK w7 g b es clock p lk s s2 k w' → Blk w' z 52 xs from fun k w' h => (h.1.block z HP7.out.lt (by simp; omega)).trans HP7.out)
      have HX2 := Lib.hid (show ∀ k w', putK w7 g b es clock p lk s s2 k w' → Blk w' z3 122 ys from fun k w' h => (h.1.block z3 HX7.out.lt (by have := HZ3.out; simp; omega)).trans HX7.out)
      have HR0 := Lib.hid (show ∀ w', putK w7 g b es clock p lk s s2 0 w' → (Instr.mapEntry 118 (.map (some b)) (.agg xs.toArray)).run Try.prog w' = .ok (.tuple #[lockA noLock, .int .i64 clock]) (withBlk w' b (.map (es.push { key := ptA p, val := lockA noLock, born := clock }) (clock + 1))) from fun w' h => by
        have := h.run0 HM2.out HXK.out HNO.out
        rw [HXE.out]; exact this)
      have HR1 := Lib.hid (show ∀ w', putK w7 g b es clock p lk s s2 1 w' → (Instr.entryStore 118 (.map (some b)) (.int .i64 clock) (.agg ys.toArray)).run Try.prog w' = .ok () (withBlk w' b (.map ((es.push { key := ptA p, val := lockA noLock, born := clock }).modify es.size fun e => { e with val := lockA lk }) (clock + 1))) from fun w' h => by
        have := h.run1 HM2.out HXK.out HNO.out
        rw [HYE.out]; exact this)
      refine ph_value rfl (by first | rfl | go_simp) (fun k_ _ _ w_ hC_ => by first | (go_simp; rfl) | (go_simp; done) | rfl) (fun K hK => ?_)
      go_simp
      refine hK _ ?_
      clear hK K
      refine ph_value rfl (by first | rfl | go_simp) (fun k_ _ _ w_ hC_ => by first | (go_simp; rfl) | (go_simp; done) | rfl) (fun K hK => ?_)
      go_simp
      refine hK _ ?_
      clear hK K
      refine ph_value rfl (by first | rfl | go_simp) (fun k_ _ _ w_ hC_ => by first | (go_simp; rfl) | (go_simp; done) | rfl) (fun K hK => ?_)
      go_simp
      refine hK _ ?_
      clear hK K
      refine ph_value rfl (by first | rfl | go_simp) (fun k_ _ _ w_ hC_ => by have c1 := HF.out _ _ hC_; first | (go_simp; rfl) | (go_simp; done) | rfl) (fun K hK => ?_)
      go_simp
      refine hK _ ?_
      clear hK K
      refine ph_load rfl rfl rfl row_point (fun k _ _ w h => HX1.out k w h) rfl HX.out ?_
      (intro K hK; go_simp; refine hK _ ?_; clear hK K)
      refine ph_value rfl (by first | rfl | go_simp) (fun k_ _ _ w_ hC_ => by first | (go_simp; rfl) | (go_simp; done) | rfl) (fun K hK => ?_)
      go_simp
      refine hK _ ?_
      clear hK K
      refine ph_load rfl rfl rfl row_lock (fun k _ _ w h => HX2.out k w h) rfl HLL.out ?_
      (intro K hK; go_simp; refine hK _ ?_; clear hK K)
      refine ph_value rfl (by first | rfl | go_simp) (fun k_ _ _ w_ hC_ => by first | (go_simp; rfl) | (go_simp; done) | rfl) (fun K hK => ?_)
      go_simp
      refine hK _ ?_
      clear hK K
      refine ph_run 0 rfl rfl rfl (by first | rfl | go_simp) (fun w' hC => ⟨_, by (have hrun := HR0.out w' hC); first | (go_simp; rfl) | (go_simp; exact ⟨rfl, rfl⟩) | go_simp, hC.entry HGB.out⟩) ?_
      (intro K hK; go_simp; refine hK _ ?_; clear hK K)
      refine ph_value rfl (by first | rfl | go_simp) (fun k_ _ _ w_ hC_ => by first | (go_simp; rfl) | (go_simp; done) | rfl) (fun K hK => ?_)
      go_simp
      refine hK _ ?_
      clear hK K
      refine ph_runs 1 rfl rfl rfl (by first | rfl | go_simp) (fun w' hC => ⟨_, by (have hrun := HR1.out w' hC); first | (go_simp; rfl) | (go_simp; exact ⟨rfl, rfl⟩) | go_simp, hC.fill HGB.out⟩) ?_
      (intro K hK; go_simp; refine hK _ ?_; clear hK K)
      refine ph_value rfl (by first | rfl | go_simp) (fun k_ _ _ w_ hC_ => by first | (go_simp; rfl) | (go_simp; done) | rfl) (fun K hK => ?_)
      go_simp
      refine hK _ ?_
      clear hK K
      refine ph_value rfl (by first | rfl | go_simp) (fun k_ _ _ w_ hC_ => by first | (go_simp; rfl) | (go_simp; done) | rfl) (fun K hK => ?_)
      go_simp
      refine hK _ ?_
      clear hK K
      refine ph_runs 2 rfl rfl rfl (by first | rfl | go_simp) (fun w' hC => ⟨_, by (have hcl := hC.2.2.2.at_ (i := 1) rfl); (have hfz := hC.2.2.2.frozen 1); first | (go_simp; rfl) | (go_simp; exact ⟨rfl, rfl⟩) | go_simp, hC.sum HGB.out⟩) ?_
      (intro K hK; go_simp; refine hK _ ?_; clear hK K)
      refine ph_nil ?_
      intro w8 hC8
      have HC8 := Lib.hid hC8
      clear hC8
      go_wp2_with fail
      go_ret
      refine ⟨ret_int HE.out.symm, HT7.out.trans HC8.out.1, fun _ => HC8.out.done HGB.out HM2.out HXK.out HNO.out HM3.out HLO.out, fun h => absurd (HE.out.trans H6.out) h⟩
    · have hb6 : (ec != 0) = true := bne_iff_ne.2 h6
      have hb7 : (ec == 0) = false := beq_eq_false_iff_ne.2 h6
      have H6 := Lib.hid h6
      clear h6
      go_wp2_with fail
      go_ret
      exact ⟨ret_int HE.out.symm, HT7.out, fun h => absurd (HE.out.symm.trans h) H6.out, fun _ => HC7.out⟩
end Go.Proofs.Ytolbbhbfbpiljaa

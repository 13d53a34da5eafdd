/- Locks in memory; contracts of locks.New, Len, Sum, Get. Printed by mklock.py. -/
import Derived.Test.YtolbbhbfbpiljaaCoinF
namespace Go.Proofs.Ytolbbhbfbpiljaa
open Go.RowKit
set_option linter.unusedVariables false
/-- A coin that is held, and for whom. -/
abbrev LockV := CoinV × List UInt8
def lockV (x : LockV) : List Value := coinV x.1 ++ x.2.map B
def LockOK (x : LockV) : Prop := CoinOK x.1 ∧ x.2.length = 32
def lockA (x : LockV) : Value := .agg (lockV x).toArray
def noLock : LockV := (noCoin, List.replicate 32 0)
theorem zero_lock : (Try.prog.info? 122).map (·.zero) = some (some (.agg (lockV noLock).toArray)) := by kernel_rfl
theorem row_lock : RowT Try.prog 122 65 := ⟨_, Try.underlying122, by kernel_rfl, by kernel_rfl⟩
theorem row_idk : RowT Try.prog 29 32 := ⟨_, Try.underlying29, by kernel_rfl, by kernel_rfl⟩
def zidV : List Value := (List.replicate 32 (0 : UInt8)).map B
theorem zero_idk : (Try.prog.info? 29).map (·.zero) = some (some (.agg zidV.toArray)) := by kernel_rfl
theorem zidV_len : zidV.length = 32 := by simp [zidV]
theorem lockV_length {x : LockV} (h : LockOK x) : (lockV x).length = 65 := by unfold lockV; rw [List.length_append, coinV_length h.1, List.length_map, h.2]
theorem lockV_one (x : LockV) : ∀ u ∈ lockV x, u.oneCell' = true := by
  intro u hu
  rcases List.mem_append.1 hu with h | h
  · exact coinV_one x.1 u h
  · obtain ⟨y, _, rfl⟩ := List.mem_map.1 h; rfl
theorem noLock_ok : LockOK noLock := ⟨noCoin_ok, by simp [noLock]⟩
theorem lock_coin {x : LockV} {j : Nat} {u : Value} (hu : (coinV x.1)[j]? = some u) : (lockV x)[0 + j]? = some u := by
  unfold lockV; rw [Nat.zero_add, List.getElem?_append_left (List.getElem?_eq_some_iff.1 hu).1]; exact hu
theorem lock_id {x : LockV} (h : LockOK x) {j : Nat} {u : Value} (hu : (x.2.map B)[j]? = some u) : (lockV x)[33 + j]? = some u := by
  unfold lockV; rw [List.getElem?_append_right (by rw [coinV_length h.1]; omega), coinV_length h.1, show 33 + j - 33 = j by omega]; exact hu
theorem mapB_one (l : List UInt8) : ∀ u ∈ l.map B, u.oneCell' = true := fun u hu => by obtain ⟨y, _, rfl⟩ := List.mem_map.1 hu; rfl
abbrev LocksL := List (PtK × LockV)
def encL (L : LocksL) : List (Value × Value) := L.map fun e => (ptA e.1, lockA e.2)
/-- What is known of the entries: right ones, each output once. -/
def LKOK (L : LocksL) : Prop := (∀ e ∈ L, PtOK e.1 ∧ LockOK e.2) ∧ (L.map (·.1)).Nodup
def lookL (L : LocksL) (p : PtK) : Option LockV := (L.find? (fun e => e.1 == p)).map (·.2)
/-- The coins' struct in block g, its map in block b. -/
structure LocksAt (w : World) (g b : Nat) (L : LocksL) (s : Int) : Prop where
  blk : Blk w g 120 [.map (some b), .int .u64 s]
  map : ∃ es clock, w.heap[b]? = some (.map es clock) ∧ MapOK Try.prog 52 es clock ∧ kvs es = encL L
  ok : LKOK L
  ne : g ≠ b
theorem LocksAt.below {w w' : World} {g b B : Nat} {L : LocksL} {s : Int} (h : LocksAt w g b L s) (hb : Below B w w') (h1 : g < B) (h2 : b < B) : LocksAt w' g b L s := by
  obtain ⟨hb1, ⟨es, clock, h3, h4, h5⟩, h6, h7⟩ := h
  exact ⟨hb1.below hb h1, ⟨es, clock, (hb.block b h2).trans h3, h4, h5⟩, h6, h7⟩
theorem LocksAt.ltg {w : World} {g b : Nat} {L : LocksL} {s : Int} (h : LocksAt w g b L s) : g < w.heap.size := h.blk.lt
theorem LocksAt.ltb {w : World} {g b : Nat} {L : LocksL} {s : Int} (h : LocksAt w g b L s) : b < w.heap.size := by
  obtain ⟨es, clock, h3, _⟩ := h.map
  exact (Array.getElem?_eq_some_iff.1 h3).1
theorem LocksAt.call {w w' : World} {g b : Nat} {L : LocksL} {s : Int} (h : LocksAt w g b L s) (hb : Below w.heap.size w w') : LocksAt w' g b L s := h.below hb h.ltg h.ltb

theorem zeroV_lock (w : World) : (zeroValue 122).run Try.prog w = .ok (lockA noLock) w := by
  obtain ⟨i, hi, hz⟩ := Option.map_eq_some_iff.1 zero_lock
  simp [zeroValue, typeInfo, hi, hz, lockA]
/-- The look of the Go code. -/
theorem LocksAt.look {w : World} {g b : Nat} {L : LocksL} {s : Int} (h : LocksAt w g b L s) {p : PtK} (hp : PtOK p) :
    ∃ c : LockV, LockOK c ∧ c = (lookL L p).getD noLock ∧ (Instr.lookup 118 (.map (some b)) (ptA p) true).run Try.prog w = .ok (.tuple #[lockA c, .bool (lookL L p).isSome]) w := by
  obtain ⟨hb1, ⟨es, clock, h3, h4, h5⟩, ⟨h6, h6'⟩, h7⟩ := h
  obtain ⟨lx, hx⟩ := keyOf_pt p hp
  unfold lookL
  cases hf : L.find? (fun e => e.1 == p) with
  | none =>
    refine ⟨noLock, noLock_ok, rfl, ?_⟩
    refine run_lookup_no kl_point Try.underlying118 h3 h4 hx ?_ zeroV_lock
    intro q hq e
    rw [h5] at hq
    obtain ⟨en, hen, rfl⟩ := List.mem_map.1 hq
    have := List.find?_eq_none.1 hf en hen
    exact this (by simpa using ptA_inj (h6 en hen).1.1 hp.1 e)
  | some en =>
    have hmem := List.mem_of_find?_eq_some hf
    have hkey : en.1 = p := by simpa using List.find?_some hf
    refine ⟨en.2, (h6 en hmem).2, rfl, ?_⟩
    obtain ⟨j, hj, hje⟩ := List.getElem_of_mem hmem
    have e1 : (kvs es)[j]? = some (ptA en.1, lockA en.2) := by rw [h5]; unfold encL; rw [List.getElem?_map, List.getElem?_eq_getElem hj, hje]; rfl
    unfold kvs at e1
    rw [List.getElem?_map] at e1
    obtain ⟨me, hme, hmm⟩ := Option.map_eq_some_iff.1 e1
    simp only [Prod.mk.injEq] at hmm
    have := run_lookup_yes kl_point Try.underlying118 h3 h4 hx (j := j) (en := me) (by simpa using hme) (by rw [hmm.1, hkey])
    rw [hmm.2] at this
    exact this


/-- The phases of two stores into two cells of the call's own. -/
def stoC (w0 : World) (g1 g2 : Nat) (t1 t2 : TypeId) (o1 o2 c1 c2 : List Value) (k : Nat) (w : World) : Prop :=
  Touched [g1, g2] w0 w ∧ w.heap.size = w0.heap.size ∧ Blk w g1 t1 (if k = 0 then o1 else c1) ∧ Blk w g2 t2 (if k ≤ 1 then o2 else c2)
section
variable {w0 w : World} {g1 g2 : Nat} {t1 t2 : TypeId} {o1 o2 c1 c2 : List Value}
theorem stoC.start (h1 : Blk w0 g1 t1 o1) (h2 : Blk w0 g2 t2 o2) : stoC w0 g1 g2 t1 t2 o1 o2 c1 c2 0 w0.drew :=
  ⟨Touched.of_below (Drawn.all (Drawn.one w0)), rfl, h1.call (Drawn.all (Drawn.one w0)), h2.call (Drawn.all (Drawn.one w0))⟩
theorem stoC.put1 {n : Nat} (hn : o1.length = n) (hg : g1 ≠ g2) (h : stoC w0 g1 g2 t1 t2 o1 o2 c1 c2 0 w) : ∃ old, Blk w g1 t1 old ∧ old.length = n ∧ ∀ w', Blk w' g1 t1 c1 → w.grownBy w' (some g1) → w'.heap.size = w.heap.size → stoC w0 g1 g2 t1 t2 o1 o2 c1 c2 1 w' := by
  obtain ⟨h1, h2, h3, h4⟩ := h
  exact ⟨o1, h3, hn, fun w' hb hgr hs => ⟨h1.grown hgr (.inl (by simp)), hs.trans h2, hb, h4.grown hgr (fun e => by injection e with e; exact hg e.symm)⟩⟩
theorem stoC.put2 {n : Nat} (hn : o2.length = n) (hg : g1 ≠ g2) (h : stoC w0 g1 g2 t1 t2 o1 o2 c1 c2 1 w) : ∃ old, Blk w g2 t2 old ∧ old.length = n ∧ ∀ w', Blk w' g2 t2 c2 → w.grownBy w' (some g2) → w'.heap.size = w.heap.size → stoC w0 g1 g2 t1 t2 o1 o2 c1 c2 2 w' := by
  obtain ⟨h1, h2, h3, h4⟩ := h
  exact ⟨o2, h4, hn, fun w' hb hgr hs => ⟨h1.grown hgr (.inl (by simp)), hs.trans h2, h3.grown hgr (fun e => by injection e with e; exact hg e), hb⟩⟩
end
section
variable {P : Program} {C : Nat → World → Prop} {M : List Nat} {R : List (Nat × Nat)} {ops : Array Oper} {Q : Act → Prop} {rest : List Oper} {i : Nat} {a : Act} {o : Oper}
theorem ph_loadmk {T : TypeId} {x : Operand} {n b off : Nat} {cs : List Value} (hM : M.contains i = false) (hw : Region.wanted o (yielded ops a.tmps) = true) (ho : o.op = .load T x) (hT : RowT P T n)
    (hb : ∀ k, phLo R i ≤ k → k ≤ phHi R i → ∀ w, C k w → ∀ j u, cs[j]? = some u → w.cell? ⟨b, off + j, none⟩ = some u) (hx : a.eval x = .pointer (some ⟨b, off, none⟩)) (hn : cs.length = n)
    (hk : ∀ K : Act → Prop, (∀ a, wpPhase P C M R ops Q rest (i + 1) a → K a) → K (a.put o.dst (.agg cs.toArray))) : wpPhase P C M R ops Q (o :: rest) i a := by
  refine ph_value hM hw (fun k h1 h2 w hC => ?_) hk
  obtain ⟨d, hu, hd, hi⟩ := hT
  have hrun := run_loadVar_mid (P := P) w b off T cs d (hb k h1 h2 w hC) hu (by cases d <;> simp_all) (by rw [hi, hn])
  unfold execOp
  simp only [ho, hx, Instr.loadAt, Instr.sureAddr, Sem.run_bind, Sem.run_pure, Result.andThen_ok, hrun]
end
theorem ret_cct {P : Program} {fn : Func} {a : Act} {w : World} {p p2 q : Tmp} {ty ty2 : TypeId} (h : fn.results = #[.cell p ty, .cell p2 ty2, .tmp q]) {n n2 : Nat} (hT : RowT P ty n) (hT2 : RowT P ty2 n2) {g g2 : Nat} {t t2 : TypeId} {cs cs2 : List Value} (hb : Blk w g t cs) (hb2 : Blk w g2 t2 cs2) (hp : a.tmps.getD p undef = .pointer (some ⟨g, 0, none⟩)) (hp2 : a.tmps.getD p2 undef = .pointer (some ⟨g2, 0, none⟩)) (hn : cs.length = n) (hn2 : cs2.length = n2)
    {v : Value} (hq : a.tmps.getD q undef = v) (hd : a.defers = [])
    {R : Ending → World → Prop} (hR : R (.returned (.tuple #[.agg cs.toArray, .agg cs2.toArray, v])) w) : bodyPost P fn R .ret a w := by
  obtain ⟨d, hu, hdd, hi⟩ := hT
  obtain ⟨d2, hu2, hdd2, hi2⟩ := hT2
  refine bodyPost_ret (v := .tuple #[.agg cs.toArray, .agg cs2.toArray, v]) ?_ hd hR
  have hp' : a.tmps[p]?.getD undef = .pointer (some ⟨g, 0, none⟩) := by simpa using hp
  have hp2' : a.tmps[p2]?.getD undef = .pointer (some ⟨g2, 0, none⟩) := by simpa using hp2
  have hq' : a.tmps[q]?.getD undef = v := by simpa using hq
  have hload := run_loadVar_row (P := P) w g t ty cs.toArray (0, 0) d hb hu (by revert hdd; cases d <;> simp) (by rw [hi]; simp [hn])
  have hload2 := run_loadVar_row (P := P) w g2 t2 ty2 cs2.toArray (0, 0) d2 hb2 hu2 (by revert hdd2; cases d2 <;> simp) (by rw [hi2]; simp [hn2])
  simp [results, h, hp', hp2', hq', asAddr, hload, hload2]
set_option maxRecDepth 100000 in
set_option maxHeartbeats 1000000 in
theorem kget_any (g b : Nat) (L : LocksL) (s : Int) (p : PtK) (w : World) (h : LocksAt w g b L s) (hp : PtOK p) :
    Calls Try.prog 25 #[.pointer (some ⟨g, 0, none⟩), ptA p] w fun e w' => e = .returned (.tuple #[.agg (((lookL L p).getD noLock).2.map B).toArray, coinA ((lookL L p).getD noLock).1, .bool (lookL L p).isSome]) ∧ Below w.heap.size w w' := by
  obtain ⟨c, hc, hce, -⟩ := h.look hp
  rw [← hce]
  obtain ⟨ok, hok⟩ : ∃ ok, ok = (lookL L p).isSome := ⟨_, rfl⟩
  rw [← hok]
  have hlk : ∀ w', LocksAt w' g b L s → (Instr.lookup 118 (.map (some b)) (ptA p) true).run Try.prog w' = .ok (.tuple #[lockA c, .bool ok]) w' := by
    intro w' h'
    obtain ⟨c', _, e, h2⟩ := h'.look hp
    rw [hce, ← e, hok]; exact h2
  have HLK := Lib.hid hlk
  have HC := Lib.hid h
  have HX := Lib.hid (ptV_length hp.1)
  have HCL := Lib.hid (lockV_length hc); have HC1 := Lib.hid (lockV_one c)
  have HKL := Lib.hid (coinV_length hc.1); have HK1 := Lib.hid (coinV_one c.1)
  have HIL := Lib.hid (show (c.2.map B).length = 32 by rw [List.length_map, hc.2]); have HI1 := Lib.hid (mapB_one c.2)
  have HPC := Lib.hid (fun j u => lock_coin (x := c) (j := j) (u := u)); have HPI := Lib.hid (fun j u => lock_id hc (j := j) (u := u))
  clear hok hce hc hp hlk
  obtain ⟨xs, hxs⟩ : ∃ xs, xs = ptV p := ⟨_, rfl⟩
  obtain ⟨cs, hcs⟩ : ∃ cs, cs = lockV c := ⟨_, rfl⟩
  obtain ⟨ks, hks⟩ : ∃ ks, ks = coinV c.1 := ⟨_, rfl⟩
  obtain ⟨is, his⟩ : ∃ is, is = c.2.map B := ⟨_, rfl⟩
  rw [coinA, ← hks, ← his]
  rw [lockA, ← hcs] at HLK
  rw [← hcs] at HCL HC1
  rw [← hks] at HKL HK1
  rw [← his] at HIL HI1
  rw [← hcs, ← hks] at HPC
  rw [← hcs, ← his] at HPI
  rw [ptA, ← hxs]
  rw [ptA, ← hxs] at HLK
  rw [← hxs] at HX
  clear hxs hcs hks his
  obtain ⟨z, hz⟩ : ∃ z, z = w.heap.size := ⟨_, rfl⟩
  have hg : g < z := by rw [hz]; exact h.ltg
  have hb : b < z := by rw [hz]; exact h.ltb
  have HZ := Lib.hid hz
  rw [← hz]
  clear h hz
  go_enter Try.func25, Try.ntmps25
  go_wp2_with (first | (with_reducible refine wpl_box (o := ⟨some 3, _, _, _, _, _⟩) rfl rfl rfl ?_))
  intro w1 hb1 hbw1 hsz1
  rw [← HZ.out] at hb1 hbw1 hsz1 ⊢
  go_wp2_with (first | (with_reducible refine wpl_alloc (o := ⟨some 4, _, _, _, _, _⟩) rfl rfl zero_idk ?_))
  intro w2 hb2 hbw2 hsz2
  have HB1 := Lib.hid (hb1.below hbw2 (by omega))
  have HBW := Lib.hid (hbw1.trans (hbw2.mono (by omega)))
  go_wp2_with (first | (with_reducible refine wpl_alloc (o := ⟨some 5, _, _, _, _, _⟩) rfl rfl zero_coin ?_))
  intro w3 hb3 hbw3 hsz3
  have HB1' := Lib.hid (HB1.out.below hbw3 (by omega))
  have HB2 := Lib.hid (hb2.below hbw3 (by omega))
  have HB3 := Lib.hid hb3
  have HBW3 := Lib.hid (HBW.out.trans (hbw3.mono (by omega)))
  have HC3 := Lib.hid (HC.out.below HBW3.out hg hb)
  have HSZ := Lib.hid hsz3
  clear hb1 hb2 hb3 hbw1 hbw2 hbw3 hsz1 hsz2 hsz3 HB1 HBW HC
  generalize hz1 : z + 1 = z1 at *
  generalize hz2 : z1 + 1 = z2 at *
  have HZ1 := Lib.hid (show z1 = z + 1 ∧ z2 = z + 2 by omega)
  clear hz1 hz2
  repeat' (first | (with_reducible refine wp_phase (id := 1) (newC w3 122 (lockV noLock) cs) [9, 10] [(0,2),(0,2),(0,2),(0,2),(0,2),(0,2),(0,2),(0,2),(0,2),(0,0),(1,1),(0,2)] (by kernel_rfl) (by kernel_rfl) ?_ ?_) | go_values | go_skip | go_guarded | go_step | go_upon | go_back)
  · exact newC.start
  have HF := Lib.hid (show ∀ k w', newC w3 122 (lockV noLock) cs k w' → w'.cell? ⟨g, 0, none⟩ = some (.map (some b)) from fun k w' h => (HC3.out.call (newC.low k w' h)).blk.at_ rfl)
  have HL := Lib.hid (show ∀ k w', newC w3 122 (lockV noLock) cs k w' → (Instr.lookup 118 (.map (some b)) (.agg xs.toArray) true).run Try.prog w' = .ok (.tuple #[.agg cs.toArray, .bool ok]) w' from fun k w' h => HLK.out w' (HC3.out.call (newC.low k w' h)))
  have HX1 := Lib.hid (show ∀ k w', newC w3 122 (lockV noLock) cs k w' → Blk w' z 52 xs from fun k w' h => HB1'.out.call (newC.low k w' h))
  refine ph_value rfl (by first | rfl | go_simp) (fun k_ _ _ w_ hC_ => by first | (go_simp; rfl) | (go_simp; done) | rfl) (fun K hK => ?_)
  go_simp
  refine hK _ ?_
  clear hK K
  refine ph_value rfl (by first | rfl | go_simp) (fun k_ _ _ w_ hC_ => by first | (go_simp; rfl) | (go_simp; done) | rfl) (fun K hK => ?_)
  go_simp
  refine hK _ ?_
  clear hK K
  refine ph_value rfl (by first | rfl | go_simp) (fun k_ _ _ w_ hC_ => by first | (go_simp; rfl) | (go_simp; done) | rfl) (fun K hK => ?_)
  go_simp
  refine hK _ ?_
  clear hK K
  refine ph_value rfl (by first | rfl | go_simp) (fun k_ _ _ w_ hC_ => by have c1 := HF.out _ _ hC_; first | (go_simp; rfl) | (go_simp; done) | rfl) (fun K hK => ?_)
  go_simp
  refine hK _ ?_
  clear hK K
  refine ph_load rfl rfl rfl row_point (fun k _ _ w h => HX1.out k w h) rfl HX.out ?_
  (intro K hK; go_simp; refine hK _ ?_; clear hK K)
  refine ph_value rfl (by first | rfl | go_simp) (fun k_ _ _ w_ hC_ => by have c1 := HL.out _ _ hC_; first | (go_simp; rfl) | (go_simp; done) | rfl) (fun K hK => ?_)
  go_simp
  refine hK _ ?_
  clear hK K
  refine ph_value rfl (by first | rfl | go_simp) (fun k_ _ _ w_ hC_ => by first | (go_simp; rfl) | (go_simp; done) | rfl) (fun K hK => ?_)
  go_simp
  refine hK _ ?_
  clear hK K
  refine ph_value rfl (by first | rfl | go_simp) (fun k_ _ _ w_ hC_ => by first | (go_simp; rfl) | (go_simp; done) | rfl) (fun K hK => ?_)
  go_simp
  refine hK _ ?_
  clear hK K
  refine ph_value rfl (by first | rfl | go_simp) (fun k_ _ _ w_ hC_ => by first | (go_simp; rfl) | (go_simp; done) | rfl) (fun K hK => ?_)
  go_simp
  refine hK _ ?_
  clear hK K
  refine ph_alloc 0 rfl rfl rfl rfl rfl zero_lock newC.lay ?_
  (intro K hK; go_simp; refine hK _ ?_; clear hK K)
  refine ph_store 1 rfl rfl rfl rfl rfl row_lock rfl rfl HCL.out HC1.out (newC.put (lockV_length noLock_ok)) ?_
  (intro K hK; go_simp; refine hK _ ?_; clear hK K)
  refine ph_value rfl (by first | rfl | go_simp) (fun k_ _ _ w_ hC_ => by first | (go_simp; rfl) | (go_simp; done) | rfl) (fun K hK => ?_)
  go_simp
  refine hK _ ?_
  clear hK K
  refine ph_nil ?_
  intro w4 ⟨hl4, hs4, hx4⟩
  have H4X := Lib.hid hx4
  have H4I := Lib.hid (HB2.out.call hl4)
  have H4C := Lib.hid (HB3.out.call hl4)
  have HL4 := Lib.hid (HBW3.out.trans (hl4.mono (by rw [HSZ.out]; have := HZ1.out; omega)))
  have HS4 := Lib.hid (show w4.heap.size = z + 4 by rw [hs4, HSZ.out]; have := HZ1.out; omega)
  have HG3 := Lib.hid (show w3.heap.size = z + 3 by rw [HSZ.out]; have := HZ1.out; omega)
  clear hl4 hs4 hx4 HF HL HX1 HC3 HB1' HB2 HB3 HBW3 HLK HSZ
  generalize hg3 : w3.heap.size = z3 at *
  have HZ3 := Lib.hid (show z3 = z + 3 from HG3.out)
  clear hg3 HG3
  go_wp2_with fail
  repeat' (first | (with_reducible refine wp_phase (id := 2) (stoC w4 z1 z2 29 54 zidV (coinV noCoin) is ks) [5, 6] [(0,0),(0,0),(0,1),(0,1),(0,2),(0,0),(1,1),(2,2)] (by kernel_rfl) (by kernel_rfl) ?_ ?_) | go_values | go_skip | go_guarded | go_step | go_upon | go_back)
  · exact stoC.start H4I.out H4C.out
  have HM := Lib.hid (show ∀ k w', stoC w4 z1 z2 29 54 zidV (coinV noCoin) is ks k w' → Blk w' z3 122 cs from fun k w' h => (h.1.block z3 H4X.out.lt (by have := HZ1.out; have := HZ3.out; simp; omega)).trans H4X.out)
  refine ph_value rfl (by first | rfl | go_simp) (fun k_ _ _ w_ hC_ => by first | (go_simp; rfl) | (go_simp; done) | rfl) (fun K hK => ?_)
  go_simp
  refine hK _ ?_
  clear hK K
  refine ph_loadmk rfl rfl rfl row_idk (fun k _ _ w h j u hu => (HM.out k w h).at_ (HPI.out j u hu)) rfl HIL.out ?_
  (intro K hK; go_simp; refine hK _ ?_; clear hK K)
  refine ph_value rfl (by first | rfl | go_simp) (fun k_ _ _ w_ hC_ => by first | (go_simp; rfl) | (go_simp; done) | rfl) (fun K hK => ?_)
  go_simp
  refine hK _ ?_
  clear hK K
  refine ph_loadmk rfl rfl rfl row_coin (fun k _ _ w h j u hu => (HM.out k w h).at_ (HPC.out j u hu)) rfl HKL.out ?_
  (intro K hK; go_simp; refine hK _ ?_; clear hK K)
  refine ph_value rfl (by first | rfl | go_simp) (fun k_ _ _ w_ hC_ => by first | (go_simp; rfl) | (go_simp; done) | rfl) (fun K hK => ?_)
  go_simp
  refine hK _ ?_
  clear hK K
  refine ph_store 0 rfl rfl rfl rfl rfl row_idk rfl rfl HIL.out HI1.out (fun w h => stoC.put1 zidV_len (by have := HZ1.out; omega) h) ?_
  (intro K hK; go_simp; refine hK _ ?_; clear hK K)
  refine ph_store 1 rfl rfl rfl rfl rfl row_coin rfl rfl HKL.out HK1.out (fun w h => stoC.put2 (coinV_length noCoin_ok) (by have := HZ1.out; omega) h) ?_
  (intro K hK; go_simp; refine hK _ ?_; clear hK K)
  refine ph_value rfl (by first | rfl | go_simp) (fun k_ _ _ w_ hC_ => by first | (go_simp; rfl) | (go_simp; done) | rfl) (fun K hK => ?_)
  go_simp
  refine hK _ ?_
  clear hK K
  refine ph_nil ?_
  intro w5 hC5
  have H5I := Lib.hid (show Blk w5 z1 29 is from hC5.2.2.1)
  have H5C := Lib.hid (show Blk w5 z2 54 ks from hC5.2.2.2)
  have HL5 := Lib.hid (HL4.out.trans (hC5.1.below (B := z) (by have := HZ1.out; simp; omega) (by have := HS4.out; omega)))
  clear hC5 HM
  go_wp2_with fail
  refine ret_cct rfl row_idk row_coin H5I.out H5C.out rfl rfl HIL.out HKL.out rfl rfl ?_
  exact ⟨rfl, HL5.out⟩
theorem knew_any (w : World) : Calls Try.prog 18 #[] w fun e w' => ∃ g b, e = .returned (.pointer (some ⟨g, 0, none⟩)) ∧ LocksAt w' g b [] 0 ∧ w.heap.size ≤ g ∧ w.heap.size ≤ b ∧ Below w.heap.size w w' := by
  have hmm : ∀ w, (Instr.makeMap 118 none).run Try.prog w = .ok (.map (some w.heap.size)) (w.alloc (.map #[] 0)) := fun w => rfl
  go_enter Try.func18, Try.ntmps18
  go_wp2
  go_ret
  refine ⟨w.heap.size + 1, w.heap.size, rfl, ⟨?_, ⟨#[], 0, ?_, MapOK.empty _ _ _, rfl⟩, ⟨by simp, by simp⟩, by omega⟩, by omega, by omega, ((Below.refl _ _).alloc (Nat.le_refl _) _).alloc (by simp) _⟩
  · have := heap_alloc_new (w.alloc (.map #[] 0)) (.cells #[.map (some w.heap.size), .int .u64 0] 120)
    simpa [Blk] using this
  · have h1 := heap_alloc_new w (.map #[] 0)
    have h2 := Below.heap_alloc (w.alloc (.map #[] 0)) (.cells #[.map (some w.heap.size), .int .u64 0] 120) w.heap.size (by simp)
    exact h2.trans h1
set_option maxRecDepth 100000 in
theorem klen_any (g b : Nat) (L : LocksL) (s : Int) (w : World) (h : LocksAt w g b L s) :
    Calls Try.prog 21 #[.pointer (some ⟨g, 0, none⟩)] w fun e w' => e = .returned (.int .i64 L.length) ∧ w = w' := by
  obtain ⟨hb1, ⟨es, clock, h3, h4, h5⟩, h6, h7⟩ := h
  have c1 : w.cell? ⟨g, 0, none⟩ = some (.map (some b)) := hb1.at_ rfl
  have e : es.size = L.length := by rw [← kvs_length, h5]; simp [encL]
  have hl := fun ty => run_len_map w 118 ty b es clock Try.underlying118 h3
  simp only [e] at hl
  clear hb1 h3 h4 h5 h6 h7 e
  go_enter Try.func21, Try.ntmps21
  go_wp2
  go_ret
  exact ⟨rfl, rfl⟩
set_option maxRecDepth 100000 in
theorem ksum_any (g b : Nat) (L : LocksL) (s : Int) (w : World) (h : LocksAt w g b L s) :
    Calls Try.prog 20 #[.pointer (some ⟨g, 0, none⟩)] w fun e w' => e = .returned (.int .u64 s) ∧ w = w' := by
  have c1 : w.cell? ⟨g, 1, none⟩ = some (.int .u64 s) := h.blk.at_ rfl
  clear h
  go_enter Try.func20, Try.ntmps20
  go_wp2
  go_ret
  exact ⟨rfl, rfl⟩
end Go.Proofs.Ytolbbhbfbpiljaa

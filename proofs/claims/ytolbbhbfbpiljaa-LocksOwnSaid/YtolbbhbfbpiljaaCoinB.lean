/- Contracts of coins.Get and its kin: a map from outputs to coins. -/
import Derived.Test.YtolbbhbfbpiljaaCoinA
import Derived.Test.YtolbbhbfbpiljaaPhase
import Derived.Test.YtolbbhbfbpiljaaMap
namespace Go.Proofs.Ytolbbhbfbpiljaa
open Go.RowKit
set_option linter.unusedVariables false

theorem laid_out : laidOutB Try.prog = true := by kernel_rfl
theorem kl_point : WideMaps.KeyLaw Try.prog 52 := deep_law_laid laid_out (m := 3) (by omega) (of_decide_eq_true (by kernel_rfl)) (by kernel_rfl) (by kernel_rfl)

abbrev PtK := List UInt8 × Int
abbrev CoinV := List UInt8 × Int
def coinV (c : CoinV) : List Value := c.1.map B ++ [.int .u64 c.2]
def PtOK (p : PtK) : Prop := p.1.length = 32 ∧ (Lit.int .i64 p.2).wf = true
def CoinOK (c : CoinV) : Prop := c.1.length = 32 ∧ 0 ≤ c.2 ∧ c.2 ≤ 18446744073709551615
def ptA (p : PtK) : Value := .agg (ptV p).toArray
def coinA (c : CoinV) : Value := .agg (coinV c).toArray

theorem cells_u8 : Try.prog.cellsOf 5 = 1 := by kernel_rfl
theorem cells_id : Try.prog.cellsOf 29 = 32 := by kernel_rfl
theorem cells_int : Try.prog.cellsOf 3 = 1 := by kernel_rfl
theorem cells_point : Try.prog.cellsOf 52 = 33 := by kernel_rfl

theorem keyLits_u8 (d : Nat) (x : UInt8) : Try.prog.keyLits (d + 1) 5 [B x] = some [.int .u8 (b8 x)] := by
  have h : (Lit.int .u8 (b8 x)).wf = true := by have := b8_range x; simp [Lit.wf, IntKind.min, IntKind.max, IntKind.signed, IntKind.bits]; omega
  unfold Program.keyLits
  rw [Try.underlying5]
  show (if IntKind.u8 = IntKind.u8 ∧ (Lit.int .u8 (b8 x)).wf = true then some [Lit.int .u8 (b8 x)] else none) = _
  rw [if_pos ⟨rfl, h⟩]
theorem mapM_some {α β : Type} (f : α → Option β) (g : α → β) : ∀ (l : List α), (∀ x ∈ l, f x = some (g x)) → l.mapM f = some (l.map g)
  | [], _ => rfl
  | x :: l, h => by
    rw [List.mapM_cons, h x (by simp), mapM_some f g l (fun y hy => h y (by simp [hy]))]; rfl
theorem keyLits_id (d : Nat) (ds : List UInt8) (h : ds.length = 32) : ∃ ls, Try.prog.keyLits (d + 2) 29 (ds.map B) = some ls := by
  unfold Program.keyLits
  rw [Try.underlying29]
  simp only [List.length_map, h, cells_id, if_true, cells_u8, Nat.mul_one]
  have := mapM_some (fun i => Try.prog.keyLits (d + 1) 5 (List.take 1 (List.drop i (ds.map B)))) (fun i => [Lit.int .u8 (b8 (ds[i]?.getD 0))]) (List.range 32) (fun i hi => by
    have hi : i < 32 := by simpa using hi
    have e : List.take 1 (List.drop i (ds.map B)) = [B (ds[i]?.getD 0)] := by
      rw [List.take_one, List.head?_drop, List.getElem?_map, List.getElem?_eq_getElem (by omega)]; rfl
    rw [e, keyLits_u8])
  exact ⟨_, by rw [this]; rfl⟩
theorem keyOf_pt (p : PtK) (h : PtOK p) : ∃ l, keyOf Try.prog 52 (ptA p) = some l := by
  obtain ⟨h1, h2⟩ := h
  unfold keyOf
  rw [Try.underlying52]
  have hk : Try.prog.keyType 52 = true := by kernel_rfl
  have hf : (ptA p).formed Try.prog 52 = true := by
    unfold ptA Value.formed
    simp only [Try.underlying52, cells_point, List.size_toArray, ptV_length h1]
    rfl
  obtain ⟨n, hn⟩ : ∃ n, Try.prog.types.size = n + 3 := ⟨Try.prog.types.size - 3, by kernel_rfl⟩
  obtain ⟨ls, hls⟩ := keyLits_id (n + 1) p.1 h1
  have hc : (ptA p).cells.toList = ptV p := by simp [ptA, Value.cells]
  have hkl : ∃ l, Try.prog.keyLits (Try.prog.types.size + 1) 52 (ptV p) = some l := by
    rw [hn]
    unfold Program.keyLits
    rw [Try.underlying52]
    have e1 : List.take 32 (ptV p) = p.1.map B := by unfold ptV; rw [List.take_append_of_le_length (by simp [h1]), List.take_of_length_le (by simp [h1])]
    have e2 : List.take 1 (List.drop 32 (ptV p)) = [.int .i64 p.2] := by unfold ptV; rw [List.drop_append_of_le_length (by simp [h1]), List.drop_of_length_le (by simp [h1])]; rfl
    have e3 : Try.prog.keyLits (n + 3) 3 [.int .i64 p.2] = some [.int .i64 p.2] := by
      unfold Program.keyLits
      rw [Try.underlying3]
      show (if IntKind.i64 = IntKind.i64 ∧ (Lit.int .i64 p.2).wf = true then some [Lit.int .i64 p.2] else none) = _
      rw [if_pos ⟨rfl, h2⟩]
    simp only [cells_point, ptV_length h1]
    rw [if_pos ⟨trivial, by kernel_rfl⟩]
    simp only [List.mapM_cons, List.mapM_nil, List.drop_zero, cells_id, cells_int, e1, e2, e3, hls]
    exact ⟨_, rfl⟩
  obtain ⟨l, hl⟩ := hkl
  simp only [hk, hf, Bool.and_self, if_true, hc, hl, Option.map_some]
  exact ⟨_, rfl⟩

theorem map_B_inj : ∀ {a b : List UInt8}, a.map B = b.map B → a = b
  | [], [], _ => rfl
  | x :: a, y :: b, h => by
    simp only [List.map_cons, List.cons.injEq] at h
    have h1 : x = y := b8_inj (by have := h.1; unfold B at this; simpa using this)
    rw [h1, map_B_inj h.2]
  | [], _ :: _, h => by simp at h
  | _ :: _, [], h => by simp at h
theorem ptA_inj {p q : PtK} (hp : p.1.length = 32) (hq : q.1.length = 32) (h : ptA p = ptA q) : p = q := by
  unfold ptA at h
  have h2 : ptV p = ptV q := by simpa using h
  unfold ptV at h2
  have h3 := List.append_inj h2 (by simp [hp, hq])
  have e1 := map_B_inj h3.1
  have e2 : p.2 = q.2 := by simpa using h3.2
  exact Prod.ext e1 e2

abbrev CoinsL := List (PtK × CoinV)
def encC (L : CoinsL) : List (Value × Value) := L.map fun e => (ptA e.1, coinA e.2)
/-- What is known of the entries: right ones, each output once. -/
def LOK (L : CoinsL) : Prop := (∀ e ∈ L, PtOK e.1 ∧ CoinOK e.2) ∧ (L.map (·.1)).Nodup
def lookC (L : CoinsL) (p : PtK) : Option CoinV := (L.find? (fun e => e.1 == p)).map (·.2)
def noCoin : CoinV := (List.replicate 32 0, 0)
/-- The coins' struct in block g, its map in block b. -/
structure CoinsAt (w : World) (g b : Nat) (L : CoinsL) (s : Int) : Prop where
  blk : Blk w g 132 [.map (some b), .int .u64 s]
  map : ∃ es clock, w.heap[b]? = some (.map es clock) ∧ MapOK Try.prog 52 es clock ∧ kvs es = encC L
  ok : LOK L
  ne : g ≠ b
theorem CoinsAt.below {w w' : World} {g b B : Nat} {L : CoinsL} {s : Int} (h : CoinsAt w g b L s) (hb : Below B w w') (h1 : g < B) (h2 : b < B) : CoinsAt w' g b L s := by
  obtain ⟨hb1, ⟨es, clock, h3, h4, h5⟩, h6, h7⟩ := h
  exact ⟨hb1.below hb h1, ⟨es, clock, (hb.block b h2).trans h3, h4, h5⟩, h6, h7⟩
theorem CoinsAt.ltg {w : World} {g b : Nat} {L : CoinsL} {s : Int} (h : CoinsAt w g b L s) : g < w.heap.size := h.blk.lt
theorem CoinsAt.ltb {w : World} {g b : Nat} {L : CoinsL} {s : Int} (h : CoinsAt w g b L s) : b < w.heap.size := by
  obtain ⟨es, clock, h3, _⟩ := h.map
  exact (Array.getElem?_eq_some_iff.1 h3).1
theorem CoinsAt.call {w w' : World} {g b : Nat} {L : CoinsL} {s : Int} (h : CoinsAt w g b L s) (hb : Below w.heap.size w w') : CoinsAt w' g b L s := h.below hb h.ltg h.ltb

theorem zero_coin : (Try.prog.info? 54).map (·.zero) = some (some (.agg (coinV noCoin).toArray)) := by kernel_rfl
theorem row_coin : RowT Try.prog 54 33 := ⟨_, Try.underlying54, by kernel_rfl, by kernel_rfl⟩
theorem row_point : RowT Try.prog 52 33 := ⟨_, Try.underlying52, by kernel_rfl, by kernel_rfl⟩
theorem zeroV_coin (w : World) : (zeroValue 54).run Try.prog w = .ok (coinA noCoin) w := by
  obtain ⟨i, hi, hz⟩ := Option.map_eq_some_iff.1 zero_coin
  simp [zeroValue, typeInfo, hi, hz, coinA]
theorem coinV_length {c : CoinV} (h : CoinOK c) : (coinV c).length = 33 := by simp [coinV, h.1]
theorem coinV_one (c : CoinV) : ∀ u ∈ coinV c, u.oneCell' = true := by
  intro u hu
  rcases List.mem_append.1 hu with h | h
  · obtain ⟨x, _, rfl⟩ := List.mem_map.1 h; rfl
  · have : u = .int .u64 c.2 := by simpa using h
    subst this; rfl
theorem noCoin_ok : CoinOK noCoin := ⟨by simp [noCoin], by simp [noCoin], by simp [noCoin]⟩

/-- The look of the Go code. -/
theorem CoinsAt.look {w : World} {g b : Nat} {L : CoinsL} {s : Int} (h : CoinsAt w g b L s) {p : PtK} (hp : PtOK p) :
    ∃ c : CoinV, CoinOK c ∧ c = (lookC L p).getD noCoin ∧ (Instr.lookup 130 (.map (some b)) (ptA p) true).run Try.prog w = .ok (.tuple #[coinA c, .bool (lookC L p).isSome]) w := by
  obtain ⟨hb1, ⟨es, clock, h3, h4, h5⟩, ⟨h6, h6'⟩, h7⟩ := h
  obtain ⟨lx, hx⟩ := keyOf_pt p hp
  unfold lookC
  cases hf : L.find? (fun e => e.1 == p) with
  | none =>
    refine ⟨noCoin, noCoin_ok, rfl, ?_⟩
    refine run_lookup_no kl_point Try.underlying130 h3 h4 hx ?_ zeroV_coin
    intro q hq e
    rw [h5] at hq
    obtain ⟨en, hen, rfl⟩ := List.mem_map.1 hq
    have := List.find?_eq_none.1 hf en hen
    exact this (by simpa using ptA_inj (h6 en hen).1.1 hp.1 e)
  | some en =>
    have hmem := List.mem_of_find?_eq_some hf
    have hkey : en.1 = p := by simpa using List.find?_some hf
    refine ⟨en.2, (h6 en hmem).2, rfl, ?_⟩
    obtain ⟨j, hj, hje⟩ := List.getElem_of_mem hmem
    have e1 : (kvs es)[j]? = some (ptA en.1, coinA en.2) := by rw [h5]; unfold encC; rw [List.getElem?_map, List.getElem?_eq_getElem hj, hje]; rfl
    unfold kvs at e1
    rw [List.getElem?_map] at e1
    obtain ⟨me, hme, hmm⟩ := Option.map_eq_some_iff.1 e1
    simp only [Prod.mk.injEq] at hmm
    have := run_lookup_yes kl_point Try.underlying130 h3 h4 hx (j := j) (en := me) (by simpa using hme) (by rw [hmm.1, hkey])
    rw [hmm.2] at this
    exact this

set_option maxRecDepth 100000 in
theorem get_any (g b : Nat) (L : CoinsL) (s : Int) (p : PtK) (w : World) (h : CoinsAt w g b L s) (hp : PtOK p) :
    Calls Try.prog 33 #[.pointer (some ⟨g, 0, none⟩), ptA p] w fun e w' => e = .returned (.tuple #[coinA ((lookC L p).getD noCoin), .bool (lookC L p).isSome]) ∧ Below w.heap.size w w' := by
  obtain ⟨c, hc, hce, -⟩ := h.look hp
  rw [← hce]
  obtain ⟨ok, hok⟩ : ∃ ok, ok = (lookC L p).isSome := ⟨_, rfl⟩
  rw [← hok]
  have hlk : ∀ w', CoinsAt w' g b L s → (Instr.lookup 130 (.map (some b)) (ptA p) true).run Try.prog w' = .ok (.tuple #[coinA c, .bool ok]) w' := by
    intro w' h'
    obtain ⟨c', _, e, h2⟩ := h'.look hp
    rw [hce, ← e, hok]; exact h2
  have HLK := Lib.hid hlk
  have HC := Lib.hid h
  have HX := Lib.hid (ptV_length hp.1)
  have HCL := Lib.hid (coinV_length hc)
  have HC1 := Lib.hid (coinV_one c)
  clear hok hce hc hp hlk
  obtain ⟨xs, hxs⟩ : ∃ xs, xs = ptV p := ⟨_, rfl⟩
  obtain ⟨cs, hcs⟩ : ∃ cs, cs = coinV c := ⟨_, rfl⟩
  rw [coinA, ← hcs]
  rw [coinA, ← hcs] at HLK
  rw [← hcs] at HCL HC1
  rw [ptA, ← hxs]
  rw [ptA, ← hxs] at HLK
  rw [← hxs] at HX
  clear hxs hcs
  obtain ⟨z, hz⟩ : ∃ z, z = w.heap.size := ⟨_, rfl⟩
  have hg : g < z := by rw [hz]; exact h.ltg
  have hb : b < z := by rw [hz]; exact h.ltb
  have HZ := Lib.hid hz
  rw [← hz]
  clear h hz
  go_enter Try.func33, Try.ntmps33
  go_wp2_with (first | (with_reducible refine wpl_box (o := ⟨some 3, _, _, _, _, _⟩) rfl rfl rfl ?_))
  intro w1 hb1 hbw1 hsz1
  rw [← HZ.out] at hb1 hbw1 hsz1 ⊢
  go_wp2_with (first | (with_reducible refine wpl_alloc (o := ⟨some 4, _, _, _, _, _⟩) rfl rfl zero_coin ?_))
  intro w2 hb2 hbw2 hsz2
  have HB1 := Lib.hid (hb1.below hbw2 (by omega))
  have HB2 := Lib.hid hb2
  have HBW := Lib.hid (hbw1.trans (hbw2.mono (by omega)))
  have HSZ := Lib.hid hsz2
  have HC2 := Lib.hid (HC.out.below HBW.out hg hb)
  clear hb1 hb2 hbw1 hbw2 hsz1 hsz2 HC
  repeat' (first | (with_reducible refine wp_phase (id := 1) (newC w2 54 (coinV noCoin) cs) [9, 10] [(0,2),(0,2),(0,2),(0,2),(0,2),(0,2),(0,2),(0,2),(0,2),(0,0),(1,1),(0,2)] (by kernel_rfl) (by kernel_rfl) ?_ ?_) | go_values | go_skip | go_guarded | go_step | go_upon | go_back)
  · exact newC.start
  have HF := Lib.hid (show ∀ k w', newC w2 54 (coinV noCoin) cs k w' → w'.cell? ⟨g, 0, none⟩ = some (.map (some b)) from fun k w' h => (HC2.out.call (newC.low k w' h)).blk.at_ rfl)
  have HL := Lib.hid (show ∀ k w', newC w2 54 (coinV noCoin) cs k w' → (Instr.lookup 130 (.map (some b)) (.agg xs.toArray) true).run Try.prog w' = .ok (.tuple #[.agg cs.toArray, .bool ok]) w' from fun k w' h => HLK.out w' (HC2.out.call (newC.low k w' h)))
  have HX1 := Lib.hid (show ∀ k w', newC w2 54 (coinV noCoin) cs k w' → Blk w' z 52 xs from fun k w' h => HB1.out.call (newC.low k w' h))
  refine ph_value rfl (by first | rfl | go_simp) (fun k_ _ _ w_ hC_ => by first | (go_simp; rfl) | (go_simp; done) | rfl) (fun K hK => ?_)
  go_simp
  refine hK _ ?_
  clear hK K
  refine ph_value rfl (by first | rfl | go_simp) (fun k_ _ _ w_ hC_ => by first | (go_simp; rfl) | (go_simp; done) | rfl) (fun K hK => ?_)
  go_simp
  refine hK _ ?_
  clear hK K
  refine ph_value rfl (by first | rfl | go_simp) (fun k_ _ _ w_ hC_ => by first | (go_simp; rfl) | (go_simp; done) | rfl) (fun K hK => ?_)
  go_simp
  refine hK _ ?_
  clear hK K
  refine ph_value rfl (by first | rfl | go_simp) (fun k_ _ _ w_ hC_ => by have c1 := HF.out _ _ hC_; first | (go_simp; rfl) | (go_simp; done) | rfl) (fun K hK => ?_)
  go_simp
  refine hK _ ?_
  clear hK K
  refine ph_load rfl rfl rfl row_point (fun k _ _ w h => HX1.out k w h) rfl HX.out ?_
  (intro K hK; go_simp; refine hK _ ?_; clear hK K)
  refine ph_value rfl (by first | rfl | go_simp) (fun k_ _ _ w_ hC_ => by have c1 := HL.out _ _ hC_; first | (go_simp; rfl) | (go_simp; done) | rfl) (fun K hK => ?_)
  go_simp
  refine hK _ ?_
  clear hK K
  refine ph_value rfl (by first | rfl | go_simp) (fun k_ _ _ w_ hC_ => by first | (go_simp; rfl) | (go_simp; done) | rfl) (fun K hK => ?_)
  go_simp
  refine hK _ ?_
  clear hK K
  refine ph_value rfl (by first | rfl | go_simp) (fun k_ _ _ w_ hC_ => by first | (go_simp; rfl) | (go_simp; done) | rfl) (fun K hK => ?_)
  go_simp
  refine hK _ ?_
  clear hK K
  refine ph_value rfl (by first | rfl | go_simp) (fun k_ _ _ w_ hC_ => by first | (go_simp; rfl) | (go_simp; done) | rfl) (fun K hK => ?_)
  go_simp
  refine hK _ ?_
  clear hK K
  refine ph_alloc 0 rfl rfl rfl rfl rfl zero_coin newC.lay ?_
  (intro K hK; go_simp; refine hK _ ?_; clear hK K)
  refine ph_store 1 rfl rfl rfl rfl rfl row_coin rfl rfl HCL.out HC1.out (newC.put (coinV_length noCoin_ok)) ?_
  (intro K hK; go_simp; refine hK _ ?_; clear hK K)
  refine ph_value rfl (by first | rfl | go_simp) (fun k_ _ _ w_ hC_ => by first | (go_simp; rfl) | (go_simp; done) | rfl) (fun K hK => ?_)
  go_simp
  refine hK _ ?_
  clear hK K
  refine ph_nil ?_
  intro w3 ⟨hl3, hs3, hx3⟩
  have H3X := Lib.hid hx3
  have H3R := Lib.hid (HB2.out.call hl3)
  have HL3 := Lib.hid (HBW.out.trans (hl3.mono (by rw [HSZ.out]; omega)))
  have HS3 := Lib.hid (show z + 3 = w3.heap.size by rw [hs3, HSZ.out])
  rw [HSZ.out] at H3X ⊢
  clear hl3 hs3 hx3 HF HL HX1 HC2 HB1 HB2 HBW HLK
  go_wp2_with (first | (with_reducible refine wpl_loadb (o := ⟨some 17, _, _, _, _, _⟩) rfl rfl row_coin H3X.out rfl HCL.out ?_) | (with_reducible refine wpl_storeb (o := ⟨none, .store _ _ _, _, _, _, _⟩) rfl rfl row_coin H3R.out rfl rfl (coinV_length noCoin_ok) HCL.out HC1.out ?_))
  intro w4 hb4 hg4 hs4
  have H4R := Lib.hid hb4
  have HL4 := Lib.hid (HL3.out.grown hg4 (by have := HS3.out; omega) (fun k hk => by cases hk; omega))
  clear hb4 hg4 hs4
  go_wp2_with fail
  refine ret_cell_tmp rfl row_coin H4R.out rfl HCL.out rfl rfl ?_
  exact ⟨rfl, HL4.out⟩

theorem new_any (w : World) : Calls Try.prog 27 #[] w fun e w' => ∃ g b, e = .returned (.pointer (some ⟨g, 0, none⟩)) ∧ CoinsAt w' g b [] 0 ∧ w.heap.size ≤ g ∧ w.heap.size ≤ b ∧ Below w.heap.size w w' := by
  have hmm : ∀ w, (Instr.makeMap 130 none).run Try.prog w = .ok (.map (some w.heap.size)) (w.alloc (.map #[] 0)) := fun w => rfl
  go_enter Try.func27, Try.ntmps27
  go_wp2
  go_ret
  refine ⟨w.heap.size + 1, w.heap.size, rfl, ⟨?_, ⟨#[], 0, ?_, MapOK.empty _ _ _, rfl⟩, ⟨by simp, by simp⟩, by omega⟩, by omega, by omega, ((Below.refl _ _).alloc (Nat.le_refl _) _).alloc (by simp) _⟩
  · have := heap_alloc_new (w.alloc (.map #[] 0)) (.cells #[.map (some w.heap.size), .int .u64 0] 132)
    simpa [Blk] using this
  · have h1 := heap_alloc_new w (.map #[] 0)
    have h2 := Below.heap_alloc (w.alloc (.map #[] 0)) (.cells #[.map (some w.heap.size), .int .u64 0] 132) w.heap.size (by simp)
    exact h2.trans h1
set_option maxRecDepth 100000 in
theorem len_any (g b : Nat) (L : CoinsL) (s : Int) (w : World) (h : CoinsAt w g b L s) :
    Calls Try.prog 57 #[.pointer (some ⟨g, 0, none⟩)] w fun e w' => e = .returned (.int .i64 L.length) ∧ w = w' := by
  obtain ⟨hb1, ⟨es, clock, h3, h4, h5⟩, h6, h7⟩ := h
  have c1 : w.cell? ⟨g, 0, none⟩ = some (.map (some b)) := hb1.at_ rfl
  have e : es.size = L.length := by rw [← kvs_length, h5]; simp [encC]
  have hl := fun ty => run_len_map w 130 ty b es clock Try.underlying130 h3
  simp only [e] at hl
  clear hb1 h3 h4 h5 h6 h7 e
  go_enter Try.func57, Try.ntmps57
  go_wp2
  go_ret
  exact ⟨rfl, rfl⟩
set_option maxRecDepth 100000 in
theorem csum_any (g b : Nat) (L : CoinsL) (s : Int) (w : World) (h : CoinsAt w g b L s) :
    Calls Try.prog 58 #[.pointer (some ⟨g, 0, none⟩)] w fun e w' => e = .returned (.int .u64 s) ∧ w = w' := by
  have c1 : w.cell? ⟨g, 1, none⟩ = some (.int .u64 s) := h.blk.at_ rfl
  clear h
  go_enter Try.func58, Try.ntmps58
  go_wp2
  go_ret
  exact ⟨rfl, rfl⟩
end Go.Proofs.Ytolbbhbfbpiljaa

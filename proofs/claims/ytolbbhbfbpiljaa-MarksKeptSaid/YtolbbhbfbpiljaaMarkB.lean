/- Contracts of the marks' functions, for marks without a path. -/
import Derived.Test.YtolbbhbfbpiljaaMark
import Derived.Test.YtolbbhbfbpiljaaBuild
import Derived.Test.YtolbbhbfbpiljaaMap
namespace Go.Proofs.Ytolbbhbfbpiljaa
open Go.RowKit
set_option linter.unusedVariables false

abbrev MKey := Int × List UInt8
def mkV (k : MKey) : List Value := .int .i64 k.1 :: k.2.map B
def mkA (k : MKey) : Value := .agg (mkV k).toArray
def MKOK (k : MKey) : Prop := I64 k.1 ∧ k.2.length = 32
theorem mkV_length {k : MKey} (h : MKOK k) : (mkV k).length = 33 := by simp [mkV, h.2]
theorem kl_mkey : WideMaps.KeyLaw Try.prog 112 := deep_law_laid laid_out' (m := 3) (by omega) (of_decide_eq_true (by kernel_rfl)) (by kernel_rfl) (by kernel_rfl)
theorem cells_mkey : Try.prog.cellsOf 112 = 33 := by kernel_rfl
theorem lits_mkey (d : Nat) (k : MKey) (h : MKOK k) : ∃ l, Try.prog.keyLits (d + 3) 112 (mkV k) = some l := by
  refine kl_struct Try.underlying112 _ _ (by rw [mkV_length h, cells_mkey]) (by kernel_rfl) ?_
  obtain ⟨h1, h2⟩ := h
  have e0 : (k.2.map B).length = 32 := by rw [List.length_map, h2]
  intro f hf
  simp only [List.mem_cons, List.not_mem_nil, or_false] at hf
  rcases hf with rfl | rfl
  · simp only [cells_int]; exact kl_int Try.underlying3 _ _ h1.wf
  · have : List.take 32 (List.drop 1 (mkV k)) = k.2.map B := by unfold mkV; rw [List.drop_succ_cons, List.drop_zero, List.take_of_length_le (by omega)]
    simp only [cells_id, this]; exact lits_id _ _ h2
theorem keyOf_mk (k : MKey) (h : MKOK k) : ∃ l, keyOf Try.prog 112 (mkA k) = some l := by
  obtain ⟨n, hn⟩ := types_3
  refine keyOf_ex (by kernel_rfl) (by kernel_rfl) (mkV k) (by rw [mkV_length h, cells_mkey]) ?_
  rw [hn]; exact lits_mkey (n + 1) k h
theorem map_B_inj' : ∀ {a b : List UInt8}, a.map B = b.map B → a = b
  | [], [], _ => rfl
  | x :: a, y :: b, h => by
    simp only [List.map_cons, List.cons.injEq] at h
    have h1 : x = y := b8_inj (by have := h.1; unfold B at this; simpa using this)
    rw [h1, map_B_inj' h.2]
  | [], _ :: _, h => by simp at h
  | _ :: _, [], h => by simp at h
theorem mkA_inj {p q : MKey} (h : mkA p = mkA q) : p = q := by
  unfold mkA at h
  have h2 : mkV p = mkV q := by simpa using h
  unfold mkV at h2
  simp only [List.cons.injEq] at h2
  exact Prod.ext (by simpa using h2.1) (map_B_inj' h2.2)
theorem row_aid : RowT Try.prog 29 32 := ⟨_, Try.underlying29, by kernel_rfl, by kernel_rfl⟩
theorem built_mkey (parts : List (Nat × Value)) : Try.prog.built 112 parts = Instr.fill (fun i => (#[(0, 1), (1, 32)] : Array (Nat × Nat))[i]?) (mkV (0, List.replicate 32 0)).toArray parts := by kernel_rfl
theorem build_mkey {k : MKey} (h : MKOK k) : Try.prog.built 112 [(0, .int .i64 k.1), (1, .agg (k.2.map B).toArray)] = some (mkV k).toArray := by
  have e0 : (k.2.map B).length = 32 := by rw [List.length_map, h.2]
  rw [built_mkey, fill_cons (off := 0) (s := 1) (cs := [.int .i64 k.1]) rfl rfl rfl (by simp [mkV]), fill_cons (off := 1) (s := 32) (cs := k.2.map B) rfl rfl e0 (by simp [mkV, splice]), fill_nil]
  congr 2
  simp [mkV, splice, e0]

abbrev MarksL := List (MKey × Mrk)
def encM (L : MarksL) : List (Value × Value) := L.map fun e => (mkA e.1, markA e.2)
def LMOK (L : MarksL) : Prop := (∀ e ∈ L, MKOK e.1 ∧ e.2.ok) ∧ (L.map (·.1)).Nodup
def lookM (L : MarksL) (k : MKey) : Option Mrk := (L.find? (fun e => e.1 == k)).map (·.2)
/-- The marks' struct in block g, its map in block b. -/
structure MarksAt (w : World) (g b : Nat) (L : MarksL) : Prop where
  blk : Blk w g 110 [.map (some b)]
  map : ∃ es clock, w.heap[b]? = some (.map es clock) ∧ MapOK Try.prog 112 es clock ∧ kvs es = encM L
  ok : LMOK L
  ne : g ≠ b
theorem MarksAt.below {w w' : World} {g b B : Nat} {L : MarksL} (h : MarksAt w g b L) (hb : Below B w w') (h1 : g < B) (h2 : b < B) : MarksAt w' g b L := by
  obtain ⟨hb1, ⟨es, clock, h3, h4, h5⟩, h6, h7⟩ := h
  exact ⟨hb1.below hb h1, ⟨es, clock, (hb.block b h2).trans h3, h4, h5⟩, h6, h7⟩
theorem MarksAt.ltg {w : World} {g b : Nat} {L : MarksL} (h : MarksAt w g b L) : g < w.heap.size := h.blk.lt
theorem MarksAt.ltb {w : World} {g b : Nat} {L : MarksL} (h : MarksAt w g b L) : b < w.heap.size := by
  obtain ⟨es, clock, h3, _⟩ := h.map
  exact (Array.getElem?_eq_some_iff.1 h3).1
theorem MarksAt.call {w w' : World} {g b : Nat} {L : MarksL} (h : MarksAt w g b L) (hb : Below w.heap.size w w') : MarksAt w' g b L := h.below hb h.ltg h.ltb
theorem lookM_none {L : MarksL} {p : MKey} (h : (lookM L p).isSome = false) : ∀ e ∈ L, e.1 ≠ p := by
  intro e he hk
  unfold lookM at h
  cases hf : L.find? (fun e => e.1 == p) with
  | none => exact List.find?_eq_none.1 hf e he (by simpa using hk)
  | some x => rw [hf] at h; simp at h
theorem zeroV_mark (w : World) : (zeroValue 39).run Try.prog w = .ok (markA noMrk) w := zeroV_of zero_mark w

/-- The look of the Go code. -/
theorem MarksAt.look {w : World} {g b : Nat} {L : MarksL} (h : MarksAt w g b L) {p : MKey} (hp : MKOK p) :
    ∃ c : Mrk, c.ok ∧ c = (lookM L p).getD noMrk ∧ (Instr.lookup 108 (.map (some b)) (mkA p) true).run Try.prog w = .ok (.tuple #[markA c, .bool (lookM L p).isSome]) w := by
  obtain ⟨hb1, ⟨es, clock, h3, h4, h5⟩, ⟨h6, h6'⟩, h7⟩ := h
  obtain ⟨lx, hx⟩ := keyOf_mk p hp
  unfold lookM
  cases hf : L.find? (fun e => e.1 == p) with
  | none =>
    refine ⟨noMrk, noMrk_ok, rfl, ?_⟩
    refine run_lookup_no kl_mkey Try.underlying108 h3 h4 hx ?_ zeroV_mark
    intro q hq e
    rw [h5] at hq
    obtain ⟨en, hen, rfl⟩ := List.mem_map.1 hq
    have := List.find?_eq_none.1 hf en hen
    exact this (by simpa using mkA_inj e)
  | some en =>
    have hmem := List.mem_of_find?_eq_some hf
    have hkey : en.1 = p := by simpa using List.find?_some hf
    refine ⟨en.2, (h6 en hmem).2, rfl, ?_⟩
    obtain ⟨j, hj, hje⟩ := List.getElem_of_mem hmem
    have e1 : (kvs es)[j]? = some (mkA en.1, markA en.2) := by rw [h5]; unfold encM; rw [List.getElem?_map, List.getElem?_eq_getElem hj, hje]; rfl
    unfold kvs at e1
    rw [List.getElem?_map] at e1
    obtain ⟨me, hme, hmm⟩ := Option.map_eq_some_iff.1 e1
    simp only [Prod.mk.injEq] at hmm
    have := run_lookup_yes kl_mkey Try.underlying108 h3 h4 hx (j := j) (en := me) (by simpa using hme) (by rw [hmm.1, hkey])
    rw [hmm.2] at this
    exact this

theorem sclone_nil (w : World) : Calls Try.prog 81 #[.slice none 0 0] w fun e w' => e = .returned (.slice none 0 0) ∧ w = w' := by
  have qT : ∀ (w : World) (a : Option Addr) (n c n' c' : Nat), (binOp .eql 33 (.slice a n c) (.slice none n' c')).run Try.prog w = .ok (.bool a.isNone) w := fun w a n c n' c' => Lib.run_eql_slice_nil w _ _ a n c n' c' Try.underlying33
  go_enter Try.func81, Try.ntmps81
  go_wp2
  go_ret
  exact ⟨rfl, rfl⟩
set_option maxRecDepth 100000 in
set_option maxHeartbeats 1000000 in
theorem mclone_any (m : Mrk) (w : World) (h : m.ok) : Calls Try.prog 50 #[markA m] w fun e w' => e = .returned (markA m) ∧ Below w.heap.size w w' := by
  have HL := Lib.hid (markV_length h)
  have H1 := Lib.hid (markV_one m)
  have HP := Lib.hid (mark_path h)
  have HN := Lib.hid (markV_length noMrk_ok)
  unfold markA
  obtain ⟨xs, hxs⟩ : ∃ xs, xs = markV m := ⟨_, rfl⟩
  rw [← hxs] at HL H1 HP ⊢
  obtain ⟨g, hg⟩ : ∃ g, g = w.heap.size := ⟨_, rfl⟩
  have HG := Lib.hid hg
  clear hxs h hg
  go_enter Try.func50, Try.ntmps50
  go_wp2_with (first | (with_reducible refine wpl_box (o := ⟨some 1, _, _, _, _, _⟩) rfl rfl rfl ?_))
  intro w1 hb1 hbw1 hsz1
  rw [← HG.out] at hb1 hbw1 hsz1 ⊢
  go_wp2_with (first | (with_reducible refine wpl_alloc (o := ⟨some 2, _, _, _, _, _⟩) rfl rfl zero_mark ?_))
  intro w2 hb2 hbw2 hsz2
  have B1 := Lib.hid (hb1.below hbw2 (by omega))
  have B2 := Lib.hid hb2
  have HB := Lib.hid (hbw1.trans (hbw2.mono (by omega)))
  have HZ := Lib.hid (show g + 2 = w2.heap.size by omega)
  clear hb1 hb2 hbw1 hbw2 hsz1 hsz2
  have c37 := B1.out.at_ HP.out
  go_wp2_with fail
  refine (sclone_nil _).mono ?_
  rintro e w3 ⟨rfl, rfl⟩
  have f37 := B1.out.frozen 37
  have B1' := Lib.hid (show Blk (w2.setCell ⟨g, 37, none⟩ (.slice none 0 0)) g 39 xs by
    have h1 := B1.out.set_ 37 (.slice none 0 0)
    have h2 : xs.set 37 (.slice none 0 0) = xs := by
      apply List.ext_getElem?
      intro i
      rw [List.getElem?_set]
      split
      · rename_i h; subst h; rw [if_pos (by rw [HL.out]; omega), HP.out]
      · rfl
    rwa [h2] at h1)
  have B2' := Lib.hid (B2.out.far (p := ⟨g, 37, none⟩) (by simp) (.slice none 0 0))
  have HB' := Lib.hid (HB.out.setCell (p := ⟨g, 37, none⟩) (Nat.le_refl _) (.slice none 0 0))
  have HZ' := Lib.hid (show g + 2 = (w2.setCell ⟨g, 37, none⟩ (.slice none 0 0)).heap.size by simp; exact HZ.out)
  clear B1 B2 HB HZ
  go_wp2_with (first | (with_reducible refine wpl_loadb (o := ⟨some 9, _, _, _, _, _⟩) rfl rfl row_mark B1'.out rfl HL.out ?_) | (with_reducible refine wpl_storeb (o := ⟨none, .store _ _ _, _, _, _, _⟩) rfl rfl row_mark B2'.out rfl rfl HN.out HL.out H1.out ?_))
  intro w5 hb5 hg5 hs5
  have B5 := Lib.hid hb5
  have HB5 := Lib.hid (HB'.out.grown hg5 (by have := HZ'.out; omega) (fun k hk => by cases hk; omega))
  clear hb5 hg5 hs5
  go_wp2_with fail
  refine ret_cell rfl row_mark B5.out rfl HL.out rfl ?_
  exact ⟨rfl, by rw [← HG.out]; exact HB5.out⟩
end Go.Proofs.Ytolbbhbfbpiljaa

/- marks in memory, with their paths; marks.clone (printed by mkmk.py out of XMarkB). -/
import Derived.Test.YtofhohofaedokaaMarksPlayB1
import Derived.Test.YtofhohofaedokaaMarksPlayB6
import Derived.Test.YtofhohofaedokaaMarksPlayB13
import Derived.Test.YtofhohofaedokaaMarksPlayB5
import Derived.Test.YtofhohofaedokaaMarksPlayB4
import Derived.Test.YtofhohofaedokaaMarksPlayB3
set_option linter.unusedSimpArgs false
/- marks in memory, with their paths; marks.clone (printed by mkmk.py out of XMarkB). -/
namespace Go.Proofs.Ytofhohofaedokaa
open Go.RowKit
set_option linter.unusedVariables false

abbrev MarksL := List (MKey × Mrk)
def encM (L : MarksL) : List (Value × Value) := L.map fun e => (mkA e.1, markA e.2)
def LMOK (L : MarksL) : Prop := (∀ e ∈ L, MKOK e.1 ∧ e.2.ok) ∧ (L.map (·.1)).Nodup
def lookM (L : MarksL) (k : MKey) : Option Mrk := (L.find? (fun e => e.1 == k)).map (·.2)
/-- The marks' struct in block g, its map in block b. -/
structure MarksAt (w : World) (g b : Nat) (L : MarksL) : Prop where
  blk : Blk w g 60 [.map (some b)]
  map : ∃ es clock, w.heap[b]? = some (.map es clock) ∧ MapOK Try.prog 64 es clock ∧ kvs es = encM L
  ok : LMOK L
  ne : g ≠ b
theorem MarksAt.below {w w' : World} {g b B : Nat} {L : MarksL} (h : MarksAt w g b L) (hb : Below B w w') (h1 : g < B) (h2 : b < B) : MarksAt w' g b L := by
  obtain ⟨hb1, ⟨es, clock, h3, h4, h5⟩, h6, h7⟩ := h
  exact ⟨hb1.below hb h1, ⟨es, clock, (hb.block b h2).trans h3, h4, h5⟩, h6, h7⟩
theorem MarksAt.ltg {w : World} {g b : Nat} {L : MarksL} (h : MarksAt w g b L) : g < w.heap.size := h.blk.lt
theorem MarksAt.ltb {w : World} {g b : Nat} {L : MarksL} (h : MarksAt w g b L) : b < w.heap.size := by
  obtain ⟨es, clock, h3, _⟩ := h.map
  exact (Array.getElem?_eq_some_iff.1 h3).1
theorem MarksAt.call {w w' : World} {g b : Nat} {L : MarksL} (h : MarksAt w g b L) (hb : Below w.heap.size w w') : MarksAt w' g b L := h.below hb h.ltg h.ltb
theorem lookM_none {L : MarksL} {p : MKey} (h : (lookM L p).isSome = false) : ∀ e ∈ L, e.1 ≠ p := by
  intro e he hk
  unfold lookM at h
  cases hf : L.find? (fun e => e.1 == p) with
  | none => exact List.find?_eq_none.1 hf e he (by simpa using hk)
  | some x => rw [hf] at h; simp at h
theorem zeroV_mark (w : World) : (zeroValue 38).run Try.prog w = .ok (markA noMrk) w := zeroV_of zero_mark w

/-- The look of the Go code. -/
theorem MarksAt.look {w : World} {g b : Nat} {L : MarksL} (h : MarksAt w g b L) {p : MKey} (hp : MKOK p) :
    ∃ c : Mrk, c.ok ∧ c = (lookM L p).getD noMrk ∧ (Instr.lookup 58 (.map (some b)) (mkA p) true).run Try.prog w = .ok (.tuple #[markA c, .bool (lookM L p).isSome]) w := by
  obtain ⟨hb1, ⟨es, clock, h3, h4, h5⟩, ⟨h6, h6'⟩, h7⟩ := h
  obtain ⟨lx, hx⟩ := keyOf_mk p hp
  unfold lookM
  cases hf : L.find? (fun e => e.1 == p) with
  | none =>
    refine ⟨noMrk, noMrk_ok, rfl, ?_⟩
    refine run_lookup_no kl_mkey Try.underlying58 h3 h4 hx ?_ zeroV_mark
    intro q hq e
    rw [h5] at hq
    obtain ⟨en, hen, rfl⟩ := List.mem_map.1 hq
    have := List.find?_eq_none.1 hf en hen
    exact this (by simpa using mkA_inj e)
  | some en =>
    have hmem := List.mem_of_find?_eq_some hf
    have hkey : en.1 = p := by simpa using List.find?_some hf
    refine ⟨en.2, (h6 en hmem).2, rfl, ?_⟩
    obtain ⟨j, hj, hje⟩ := List.getElem_of_mem hmem
    have e1 : (kvs es)[j]? = some (mkA en.1, markA en.2) := by rw [h5]; unfold encM; rw [List.getElem?_map, List.getElem?_eq_getElem hj, hje]; rfl
    unfold kvs at e1
    rw [List.getElem?_map] at e1
    obtain ⟨me, hme, hmm⟩ := Option.map_eq_some_iff.1 e1
    simp only [Prod.mk.injEq] at hmm
    have := run_lookup_yes kl_mkey Try.underlying58 h3 h4 hx (j := j) (en := me) (by simpa using hme) (by rw [hmm.1, hkey])
    rw [hmm.2] at this
    exact this

/-- A mark's path in memory. -/
def PathAt (w : World) (m : Mrk) (ds : List (List UInt8)) : Prop := Ids w m.pA m.pn m.pc ds
theorem PathAt.grow {w w' : World} {m : Mrk} {ds : List (List UInt8)} (h : PathAt w m ds) (k : Grow w w') : PathAt w' m ds := Ids.grow h k
theorem MarksAt.grow {w w' : World} {g b : Nat} {L : MarksL} (h : MarksAt w g b L) (k : Grow w w') : MarksAt w' g b L := h.call k
/-- A map changes: a path stays. -/
theorem PathAt.map {w w' : World} {m : Mrk} {ds : List (List UInt8)} {b : Nat} {es : Array MapEntry} {clock : Nat} (h : PathAt w m ds) (hb : w.heap[b]? = some (.map es clock)) (hg : w.grownBy w' (some b)) : PathAt w' m ds := by
  obtain ⟨⟨h0, h1⟩, h2⟩ := h
  refine ⟨⟨h0, fun hn => ?_⟩, h2⟩
  obtain ⟨q, off, e, hq, hc⟩ := h1 hn
  refine ⟨q, off, e, Nat.lt_of_lt_of_le hq hg.size, fun j u hu => ?_⟩
  have hne : some q ≠ some b := by
    intro e2
    injection e2 with e2
    have h3 := hc j u hu
    subst e2
    unfold World.cell? at h3
    rw [hb] at h3
    simp at h3
  exact (World.cell?_of_block (hg.block q hq hne)).trans (hc j u hu)
/-- With its path elsewhere. -/
def Mrk.at (m : Mrk) (A : Option Addr) (c : Nat) : Mrk := { m with pA := A, pc := c }
theorem Mrk.at_ok {m : Mrk} (h : m.ok) (A : Option Addr) (c : Nat) : (m.at A c).ok := h
theorem id_one (ds : List (List UInt8)) : ∀ u ∈ idCells ds, u.oneCell' = true := by
  intro u hu
  unfold idCells at hu
  obtain ⟨d, _, hd⟩ := List.mem_flatMap.1 hu
  exact all_bytes d u hd
theorem sclone_any (A : Option Addr) (n c : Nat) (ds : List (List UInt8)) (w : World) (hs : Ids w A n c ds) (hn : n ≤ 1000000) :
    Calls Try.prog 36 #[.slice A n c] w fun e w' => ∃ A' c', e = .returned (.slice A' n c') ∧ Ids w' A' n c' ds ∧ (∀ k, A'.map Addr.block = some k → w.heap.size ≤ k) ∧ Grow w w' := by
  have HL := Lib.hid hs.2.1; have H32 := Lib.hid hs.2.2.1
  have qT : ∀ (w : World) (a : Option Addr) (n c n' c' : Nat), (binOp .eql 32 (.slice a n c) (.slice none n' c')).run Try.prog w = .ok (.bool a.isNone) w := fun w a n c n' c' => Lib.run_eql_slice_nil w _ _ a n c n' c' Try.underlying32
  cases A with
  | none =>
    obtain rfl : n = 0 := by
      rcases Nat.eq_zero_or_pos n with h0 | h0
      · exact h0
      · obtain ⟨b, off, h1, _⟩ := hs.1.2 h0; cases h1
    have hb0 : ds = [] := List.length_eq_zero_iff.1 hs.2.1
    subst hb0
    clear hs
    go_enter Try.func36, Try.ntmps36
    go_wp2
    go_ret
    exact ⟨none, 0, rfl, Ids.none_ _, (fun k h => by cases h), Grow.refl _⟩
  | some ad =>
    have HN0 := Lib.hid (World.ownsRow_lit (base := w.heap.size) (e := 28) (size := 32) w #[] 0 (Nat.le_refl _) (by simp [maxLen]) rfl)
    have HSA := Lib.hid (hs.1.alloc (Nat.le_refl _) (.cells #[] 28))
    have HONE := Lib.hid (id_one ds)
    obtain ⟨xs, hxs⟩ : ∃ q, q = idCells ds := ⟨_, rfl⟩
    rw [← hxs] at HSA HONE
    have HXS := Lib.hid hxs
    clear hs hxs
    go_enter Try.func36, Try.ntmps36
    go_wp2_with (at_builtin; refine wpl_apps rfl rfl el_id HN0.out rfl HSA.out rfl HONE.out (by omega) (by omega) (by simp) ?_)
    intro A4 c4 w4 ho hg hA
    have HO := Lib.hid (show OwnI w4 w.heap.size A4 n c4 ds by unfold OwnI; rw [← HXS.out]; simpa using ho)
    have HB := Lib.hid (show Grow w w4 from ((Below.refl w.heap.size w).alloc (Nat.le_refl _) (.cells #[] 28)).grown hg (by simp) (by intro k hk; cases hk; exact Nat.le_refl _))
    clear ho hg hA
    try simp only [Nat.zero_add]
    go_wp2_with fail
    go_ret
    refine ⟨A4, c4, rfl, Ids.own HO.out HL.out H32.out ?_, own_from HO.out, HB.out⟩
    rcases Nat.eq_zero_or_pos n with e | e
    · omega
    · obtain ⟨_, _, _, _, h4⟩ := own_form HO.out e; exact h4
theorem mark_set {m : Mrk} (h : m.ok) (A : Option Addr) (c : Nat) : (markV m).set 37 (.slice A m.pn c) = markV (m.at A c) := by
  unfold markV
  rw [List.set_append_right _ _ (by rw [entV_length h.1]; omega), entV_length h.1]; rfl
theorem mark_cl {m : Mrk} (h : m.ok) : Cl 138 (markV m) := ⟨markV_length h, markV_one m⟩
theorem len_mark : (markV noMrk).length = 138 := markV_length noMrk_ok
set_option maxRecDepth 100000 in
set_option maxHeartbeats 1000000 in
theorem mclone_any (m : Mrk) (ds : List (List UInt8)) (w : World) (h : m.ok) (hp : PathAt w m ds) : Calls Try.prog 21 #[markA m] w fun e w' => ∃ A c, e = .returned (markA (m.at A c)) ∧ PathAt w' (m.at A c) ds ∧ (∀ k, A.map Addr.block = some k → w.heap.size ≤ k) ∧ Grow w w' := by
  have HXC := Lib.hid (mark_cl h)
  have HP := Lib.hid (mark_path h)
  have HPA := Lib.hid hp
  have HZM := Lib.hid zero_mark
  have HOK := Lib.hid h
  have HSE := Lib.hid (fun A c => mark_set h A c)
  have HMC := Lib.hid (fun A c => mark_cl (Mrk.at_ok h A c))
  have HSC := Lib.hid (fun (w' : World) (hg : Grow w w') => sclone_any m.pA m.pn m.pc ds w' (hp.grow hg) h.2.2.2.2)
  unfold markA
  obtain ⟨xs, hxs⟩ : ∃ xs, xs = markV m := ⟨_, rfl⟩
  rw [← hxs] at HXC HP HSE ⊢
  obtain ⟨pA, hpA⟩ : ∃ q, q = m.pA := ⟨_, rfl⟩
  obtain ⟨pn, hpn⟩ : ∃ q, q = m.pn := ⟨_, rfl⟩
  obtain ⟨pc, hpc⟩ : ∃ q, q = m.pc := ⟨_, rfl⟩
  rw [← hpA, ← hpn, ← hpc] at HP HSC
  have HPN := Lib.hid hpn
  clear hxs h hp hpA hpn hpc
  obtain ⟨w_, hw⟩ : ∃ x, x = w := ⟨_, rfl⟩
  have HB := Lib.hid (show Below w.heap.size w w_ by rw [hw]; exact Below.refl _ _)
  suffices H : Calls Try.prog 21 #[.agg xs.toArray] w_ fun e w' => ∃ A c, e = .returned (.agg (markV (m.at A c)).toArray) ∧ PathAt w' (m.at A c) ds ∧ (∀ k, A.map Addr.block = some k → w.heap.size ≤ k) ∧ Grow w w' by rw [hw] at H; exact H
  clear hw
  go_enter Try.func21, Try.ntmps21
  go_wp2_with (first | (with_reducible refine wpl_box (o := ⟨some 1, _, _, _, _, _⟩) rfl rfl rfl ?_))
  intro w2_ hb2_ hb_ hsz2_
  have HX_ := Lib.hid (at_mk hb2_ HXC.out.len)
  clear hb2_ hsz2_
  have HG_ := Lib.hid HB.out.size
  have HB_ := Lib.hid (HB.out.grow' hb_)
  clear HB
  have HB := HB_
  clear HB_
  generalize hg_ : w_.heap.size = g1 at HX_ HG_ ⊢
  clear hg_
  have HX_g := HG_
  clear HG_
  have HX := HX_
  clear hb_ HX_
  try clear w_
  rename World => w_
  go_wp2_with (first | (with_reducible refine wpl_alloc (o := ⟨some 2, _, _, _, _, _⟩) rfl rfl zero_mark ?_))
  intro w2_ hb2_ hb_ hsz2_
  have HX_ := Lib.hid (at_mk hb2_ len_mark)
  clear hb2_ hsz2_
  have HG_ := Lib.hid HB.out.size
  have HR_HX := Lib.hid (Nat.ne_of_lt HX.out.lt)
  have HR_HX_lt := Lib.hid (HX.out.lt)
  have HB_ := Lib.hid (HB.out.grow' hb_)
  clear HB
  have HB := HB_
  clear HB_
  have HX_ := Lib.hid (HX.out.grow hb_)
  clear HX
  have HX := HX_
  clear HX_
  generalize hg_ : w_.heap.size = g2 at HX_ HG_ HR_HX HR_HX_lt ⊢
  clear hg_
  have HR_g := HG_
  clear HG_
  have HR := HX_
  clear hb_ HX_
  try clear w_
  rename World => w_
  have c37 := HX.out.blk.at_ HP.out
  go_wp2_with fail
  refine (HSC.out _ HB.out).mono ?_
  rintro e w2_ ⟨A, c, rfl, hi_, hk_, hb_⟩
  have HID := Lib.hid hi_
  have HFR := Lib.hid (show ∀ k, A.map Addr.block = some k → g2 < k from fun k hk => Nat.lt_of_lt_of_le HR.out.lt (hk_ k hk))
  clear hi_ hk_ c37
  have hb_ := hb_
  clear hb_
  have HB_ := Lib.hid (HB.out.grow' hb_)
  clear HB
  have HB := HB_
  clear HB_
  have HX_ := Lib.hid (HX.out.grow hb_)
  clear HX
  have HX := HX_
  clear HX_
  have HR_ := Lib.hid (HR.out.grow hb_)
  clear HR
  have HR := HR_
  clear HR_
  clear hb_
  try clear w_
  rename World => w_
  have hl138 := HX.out.len
  go_wp2_with (first | (refine wpl_store1 (o := ⟨none, .store _ _ _, _, _, _, _⟩) rfl rfl HX.out.blk rfl rfl (by kernel_rfl) rfl rfl (by rw [hl138]; omega) ?_))
  clear hl138
  intro w2_ hb2_ hg2_ hsz2_
  have HB_ := Lib.hid (put_below HB.out HX_g.out hg2_)
  have HX_ := Lib.hid (show At w2_ g1 38 138 (markV (m.at A c)) from at_mk (by rw [HPN.out, HSE.out A c] at hb2_; exact hb2_) (HMC.out A c).len)
  have HR_ := Lib.hid (At.off HR.out hg2_ (fun e => HR_HX.out e.symm))
  have HI_ := Lib.hid (HID.out.off hg2_ (fun k hk => Nat.lt_trans (by have := HR_HX_lt.out; exact this) (HFR.out k hk)))
  clear hb2_ hg2_ hsz2_ HB HX HR HID
  have HB := HB_; have HX := HX_; have HR := HR_; have HID := HI_
  clear HB_ HX_ HR_ HI_
  try clear w_
  rename World => w_
  have HYC := Lib.hid (HMC.out A c)
  obtain ⟨ys, hys⟩ : ∃ q, q = markV (m.at A c) := ⟨_, rfl⟩
  rw [← hys] at HX HYC
  have HYS := Lib.hid hys
  clear hys
  go_wp2_with (first | (with_reducible refine wpl_loadb (o := ⟨some 9, _, _, _, _, _⟩) rfl rfl row_mark HX.out.blk rfl HX.out.len ?_) | (with_reducible refine wpl_storeb (o := ⟨none, .store _ _ _, _, _, _, _⟩) rfl rfl row_mark HR.out.blk rfl rfl HR.out.len HYC.out.len HYC.out.one ?_))
  intro w2_ hb2_ hg2_ hsz2_
  have HB_ := Lib.hid (put_below HB.out HR_g.out hg2_)
  have HR_ := Lib.hid hb2_
  have HI_ := Lib.hid (HID.out.off hg2_ HFR.out)
  have HFK := Lib.hid (show ∀ k, A.map Addr.block = some k → w.heap.size ≤ k from fun k hk => by have := HFR.out k hk; have := HR_g.out; omega)
  clear hb2_ hg2_ hsz2_
  go_wp2_with fail
  refine ret_cell rfl row_mark HR_.out rfl HYC.out.len rfl ?_
  exact ⟨A, c, by rw [HYS.out], by unfold PathAt; exact (by have := HI_.out; rw [HPN.out] at this; exact this), HFK.out, HB_.out⟩
end Go.Proofs.Ytofhohofaedokaa

/- Contracts of marks.New, Len, Get and Put, for marks without a path. -/
namespace Go.Proofs.Ytofhohofaedokaa
open Go.RowKit
set_option linter.unusedVariables false

theorem mnew_any (w : World) : Calls Try.prog 5 #[] w fun e w' => ∃ g b, e = .returned (.pointer (some ⟨g, 0, none⟩)) ∧ MarksAt w' g b [] ∧ w.heap.size ≤ g ∧ w.heap.size ≤ b ∧ Below w.heap.size w w' := by
  have hmm : ∀ w, (Instr.makeMap 58 none).run Try.prog w = .ok (.map (some w.heap.size)) (w.alloc (.map #[] 0)) := fun w => rfl
  go_enter Try.func5, Try.ntmps5
  go_wp2
  go_ret
  refine ⟨w.heap.size + 1, w.heap.size, rfl, ⟨?_, ⟨#[], 0, ?_, MapOK.empty _ _ _, rfl⟩, ⟨by simp, by simp⟩, by omega⟩, by omega, by omega, ((Below.refl _ _).alloc (Nat.le_refl _) _).alloc (by simp) _⟩
  · have := heap_alloc_new (w.alloc (.map #[] 0)) (.cells #[.map (some w.heap.size)] 60)
    simpa [Blk] using this
  · have h1 := heap_alloc_new w (.map #[] 0)
    have h2 := Below.heap_alloc (w.alloc (.map #[] 0)) (.cells #[.map (some w.heap.size)] 60) w.heap.size (by simp)
    exact h2.trans h1
set_option maxRecDepth 100000 in
theorem mlen_any (g b : Nat) (L : MarksL) (w : World) (h : MarksAt w g b L) :
    Calls Try.prog 16 #[.pointer (some ⟨g, 0, none⟩)] w fun e w' => e = .returned (.int .i64 L.length) ∧ w = w' := by
  obtain ⟨hb1, ⟨es, clock, h3, h4, h5⟩, h6, h7⟩ := h
  have c1 : w.cell? ⟨g, 0, none⟩ = some (.map (some b)) := hb1.at_ rfl
  have e : es.size = L.length := by rw [← kvs_length, h5]; simp [encM]
  have hl := fun ty => run_len_map w 58 ty b es clock Try.underlying58 h3
  simp only [e] at hl
  clear hb1 h3 h4 h5 h6 h7 e
  go_enter Try.func16, Try.ntmps16
  go_wp2
  go_ret
  exact ⟨rfl, rfl⟩

set_option maxRecDepth 100000 in
set_option maxHeartbeats 1000000 in
theorem mgeto_any (g b : Nat) (L : MarksL) (p : MKey) (w : World) (ds : List (List UInt8)) (h : MarksAt w g b L) (hp : MKOK p) (hd : PathAt w ((lookM L p).getD noMrk) ds) :
    Calls Try.prog 13 #[.pointer (some ⟨g, 0, none⟩), .int .i64 p.1, .agg (p.2.map B).toArray] w fun e w' => ∃ A c, e = .returned (.tuple #[markA (((lookM L p).getD noMrk).at A c), .bool (lookM L p).isSome]) ∧ PathAt w' (((lookM L p).getD noMrk).at A c) ds ∧ (∀ k, A.map Addr.block = some k → w.heap.size ≤ k) ∧ Below w.heap.size w w' := by
  obtain ⟨c, hc, hce, -⟩ := h.look hp
  rw [← hce] at hd ⊢
  obtain ⟨ok, hok⟩ : ∃ ok, ok = (lookM L p).isSome := ⟨_, rfl⟩
  rw [← hok]
  have hlk : ∀ w', MarksAt w' g b L → (Instr.lookup 58 (.map (some b)) (mkA p) true).run Try.prog w' = .ok (.tuple #[markA c, .bool ok]) w' := by
    intro w' h'
    obtain ⟨c', _, e, h2⟩ := h'.look hp
    rw [hce, ← e, hok]; exact h2
  have HLK := Lib.hid hlk
  have HC := Lib.hid h
  have HX := Lib.hid (show (p.2.map B).length = 32 by rw [List.length_map, hp.2])
  have HCL := Lib.hid (markV_length hc)
  have HC1 := Lib.hid (markV_one c)
  have HCC := Lib.hid (fun (w' : World) (hg : Grow w w') => show Calls Try.prog 21 #[.agg (markV c).toArray] w' fun e w2 => ∃ A c2, e = .returned (.agg (markV (c.at A c2)).toArray) ∧ PathAt w2 (c.at A c2) ds ∧ (∀ k, A.map Addr.block = some k → w'.heap.size ≤ k) ∧ Grow w' w2 from mclone_any c ds w' hc (hd.grow hg))
  have HMC := Lib.hid (fun A c2 => mark_cl (Mrk.at_ok hc A c2))
  have HKB := Lib.hid (build_mkey hp)
  have HNL := Lib.hid (markV_length noMrk_ok)
  clear hok hce hp hlk hc hd
  obtain ⟨pi, hpi⟩ : ∃ pi, pi = p.1 := ⟨_, rfl⟩
  obtain ⟨ys, hys⟩ : ∃ ys, ys = p.2.map B := ⟨_, rfl⟩
  obtain ⟨xs, hxs⟩ : ∃ xs, xs = mkV p := ⟨_, rfl⟩
  obtain ⟨cs, hcs⟩ : ∃ cs, cs = markV c := ⟨_, rfl⟩
  rw [markA, ← hcs, mkA, ← hxs] at HLK
  rw [← hcs] at HCC
  rw [← hcs] at HCL HC1
  rw [← hpi, ← hys] at HKB ⊢
  rw [← hxs] at HKB
  rw [← hys] at HX
  clear hxs hcs hpi hys
  obtain ⟨z, hz⟩ : ∃ z, z = w.heap.size := ⟨_, rfl⟩
  have hg : g < z := by rw [hz]; exact h.ltg
  have hb : b < z := by rw [hz]; exact h.ltb
  have HZ := Lib.hid hz
  rw [← hz]
  clear h hz
  go_enter Try.func13, Try.ntmps13
  go_wp2_with (first | (with_reducible refine wpl_box (o := ⟨some 5, _, _, _, _, _⟩) rfl rfl rfl ?_))
  intro w1 hb1 hbw1 hsz1
  rw [← HZ.out] at hb1 hbw1 hsz1 ⊢
  go_wp2_with (first | (with_reducible refine wpl_alloc (o := ⟨some 6, _, _, _, _, _⟩) rfl rfl zero_mark ?_))
  intro w2 hb2 hbw2 hsz2
  have HB1 := Lib.hid (hb1.below hbw2 (by omega))
  have HB2 := Lib.hid hb2
  have HBW := Lib.hid (hbw1.trans (hbw2.mono (by omega)))
  have HSZ := Lib.hid hsz2
  have HC2 := Lib.hid (HC.out.below HBW.out hg hb)
  clear hb1 hb2 hbw1 hbw2 hsz1 hsz2 HC
  repeat' (first | (with_reducible refine wp_phase (id := 1) (newC w2 38 (markV noMrk) cs) [11, 12] [(0,2),(0,2),(0,2),(0,2),(0,2),(0,2),(0,2),(0,2),(0,2),(0,2),(0,2),(0,0),(1,1),(0,2)] (by kernel_rfl) (by kernel_rfl) ?_ ?_) | go_values | go_skip | go_guarded | go_step | go_upon | go_back)
  · exact newC.start
  have HF := Lib.hid (show ∀ k w', newC w2 38 (markV noMrk) cs k w' → w'.cell? ⟨g, 0, none⟩ = some (.map (some b)) from fun k w' h => (HC2.out.call (newC.low k w' h)).blk.at_ rfl)
  have HL := Lib.hid (show ∀ k w', newC w2 38 (markV noMrk) cs k w' → (Instr.lookup 58 (.map (some b)) (.agg xs.toArray) true).run Try.prog w' = .ok (.tuple #[.agg cs.toArray, .bool ok]) w' from fun k w' h => HLK.out w' (HC2.out.call (newC.low k w' h)))
  have HX1 := Lib.hid (show ∀ k w', newC w2 38 (markV noMrk) cs k w' → Blk w' z 28 ys from fun k w' h => HB1.out.call (newC.low k w' h))
  refine ph_value rfl (by first | rfl | go_simp) (fun k_ _ _ w_ hC_ => by first | (go_simp; rfl) | (go_simp; done) | rfl) (fun K hK => ?_)
  go_simp
  refine hK _ ?_
  clear hK K
  refine ph_value rfl (by first | rfl | go_simp) (fun k_ _ _ w_ hC_ => by first | (go_simp; rfl) | (go_simp; done) | rfl) (fun K hK => ?_)
  go_simp
  refine hK _ ?_
  clear hK K
  refine ph_value rfl (by first | rfl | go_simp) (fun k_ _ _ w_ hC_ => by first | (go_simp; rfl) | (go_simp; done) | rfl) (fun K hK => ?_)
  go_simp
  refine hK _ ?_
  clear hK K
  refine ph_value rfl (by first | rfl | go_simp) (fun k_ _ _ w_ hC_ => by have c1 := HF.out _ _ hC_; first | (go_simp; rfl) | (go_simp; done) | rfl) (fun K hK => ?_)
  go_simp
  refine hK _ ?_
  clear hK K
  refine ph_value rfl (by first | rfl | go_simp) (fun k_ _ _ w_ hC_ => by first | (go_simp; rfl) | (go_simp; done) | rfl) (fun K hK => ?_)
  go_simp
  refine hK _ ?_
  clear hK K
  refine ph_load rfl rfl rfl row_aid (fun k _ _ w h => HX1.out k w h) rfl HX.out ?_
  (intro K hK; go_simp; refine hK _ ?_; clear hK K)
  refine ph_value rfl (by first | rfl | go_simp) (fun k_ _ _ w_ hC_ => exec_build rfl HKB.out w_) (fun K hK => ?_)
  go_simp
  refine hK _ ?_
  clear hK K
  refine ph_value rfl (by first | rfl | go_simp) (fun k_ _ _ w_ hC_ => by have c1 := HL.out _ _ hC_; first | (go_simp; rfl) | (go_simp; done) | rfl) (fun K hK => ?_)
  go_simp
  refine hK _ ?_
  clear hK K
  refine ph_value rfl (by first | rfl | go_simp) (fun k_ _ _ w_ hC_ => by first | (go_simp; rfl) | (go_simp; done) | rfl) (fun K hK => ?_)
  go_simp
  refine hK _ ?_
  clear hK K
  refine ph_value rfl (by first | rfl | go_simp) (fun k_ _ _ w_ hC_ => by first | (go_simp; rfl) | (go_simp; done) | rfl) (fun K hK => ?_)
  go_simp
  refine hK _ ?_
  clear hK K
  refine ph_value rfl (by first | rfl | go_simp) (fun k_ _ _ w_ hC_ => by first | (go_simp; rfl) | (go_simp; done) | rfl) (fun K hK => ?_)
  go_simp
  refine hK _ ?_
  clear hK K
  refine ph_alloc 0 rfl rfl rfl rfl rfl zero_mark newC.lay ?_
  (intro K hK; go_simp; refine hK _ ?_; clear hK K)
  refine ph_store 1 rfl rfl rfl rfl rfl row_mark rfl rfl HCL.out HC1.out (newC.put HNL.out) ?_
  (intro K hK; go_simp; refine hK _ ?_; clear hK K)
  refine ph_value rfl (by first | rfl | go_simp) (fun k_ _ _ w_ hC_ => by first | (go_simp; rfl) | (go_simp; done) | rfl) (fun K hK => ?_)
  go_simp
  refine hK _ ?_
  clear hK K
  refine ph_nil ?_
  intro w3 ⟨hl3, hs3, hx3⟩
  have H3X := Lib.hid hx3
  have H3R := Lib.hid (HB2.out.call hl3)
  have HL3 := Lib.hid (HBW.out.trans (hl3.mono (by rw [HSZ.out]; omega)))
  have HS3 := Lib.hid (show z + 3 = w3.heap.size by rw [hs3, HSZ.out])
  rw [HSZ.out] at H3X ⊢
  clear hl3 hs3 hx3 HF HL HX1 HC2 HB1 HB2 HBW HLK
  go_wp2_with (first | (with_reducible refine wpl_loadb (o := ⟨some 21, _, _, _, _, _⟩) rfl rfl row_mark H3X.out rfl HCL.out ?_))
  refine (HCC.out _ (by have := HL3.out; rw [HZ.out] at this; exact this)).mono ?_
  rintro e w4 ⟨A, c2, rfl, hpt, hfr, hb4⟩
  have H4R := Lib.hid (H3R.out.call hb4)
  have HL4 := Lib.hid (HL3.out.trans (hb4.mono (by have := HS3.out; omega)))
  have HS4 := Lib.hid (show z + 3 ≤ w4.heap.size by have := HS3.out; have := hb4.size; omega)
  have HPT := Lib.hid hpt
  have HFR := Lib.hid (show ∀ k, A.map Addr.block = some k → z + 1 < k from fun k hk => by have := hfr k hk; have := HS3.out; omega)
  have HYC := Lib.hid (HMC.out A c2)
  clear hb4 H3R HL3 hpt hfr
  obtain ⟨yv, hyv⟩ : ∃ q, q = markV (c.at A c2) := ⟨_, rfl⟩
  rw [← hyv] at HYC ⊢
  have HYV := Lib.hid hyv
  clear hyv
  go_wp2_with (first | (with_reducible refine wpl_storeb (o := ⟨none, .store _ _ _, _, _, _, _⟩) rfl rfl row_mark H4R.out rfl rfl HNL.out HYC.out.len HYC.out.one ?_))
  intro w5 hb5 hg5 hs5
  have H5R := Lib.hid hb5
  have HL5 := Lib.hid (HL4.out.grown hg5 (by have := HS4.out; omega) (fun k hk => by cases hk; omega))
  have HP5 := Lib.hid (show PathAt w5 (c.at A c2) ds from Ids.off HPT.out hg5 (fun k hk => by have := HFR.out k hk; omega))
  clear hb5 hg5 hs5
  go_wp2_with fail
  refine ret_cell_tmp rfl row_mark H5R.out rfl HYC.out.len rfl rfl ?_
  exact ⟨A, c2, (by rw [HYV.out]; rfl), HP5.out, fun k hk => by have := HFR.out k hk; omega, HL5.out⟩
theorem mget_any (g b : Nat) (L : MarksL) (p : MKey) (w : World) (ds : List (List UInt8)) (h : MarksAt w g b L) (hp : MKOK p) (hd : PathAt w ((lookM L p).getD noMrk) ds) :
    Calls Try.prog 13 #[.pointer (some ⟨g, 0, none⟩), .int .i64 p.1, .agg (p.2.map B).toArray] w fun e w' => ∃ A c, e = .returned (.tuple #[markA (((lookM L p).getD noMrk).at A c), .bool (lookM L p).isSome]) ∧ PathAt w' (((lookM L p).getD noMrk).at A c) ds ∧ Below w.heap.size w w' :=
  (mgeto_any g b L p w ds h hp hd).mono fun e w' ⟨A, c, h1, h2, _, h3⟩ => ⟨A, c, h1, h2, h3⟩
end Go.Proofs.Ytofhohofaedokaa

/- The contract of marks.Put (printed by mkmk.py out of XMarkD). -/
namespace Go.Proofs.Ytofhohofaedokaa
open Go.RowKit
set_option linter.unusedVariables false

def putM (L : MarksL) (k : MKey) (m : Mrk) : Int :=
  if k.1 ≠ 0 ∧ k.1 ≠ 1 then 1 else if rightM m = false then 16 else if (lookM L k).isSome then 24 else if 128 ≤ L.length then 18 else 0

/-- The phases of 'm[key] = clone(x)': before it, behind it. -/
def updC (w0 : World) (b : Nat) (o : Obj) (k : Nat) (w : World) : Prop := if k = 0 then Below w0.heap.size w0 w else ∃ w1, Below w0.heap.size w0 w1 ∧ w = withBlk w1 b o
theorem updC.start {w0 : World} {b : Nat} {o : Obj} : updC w0 b o 0 w0.drew := by unfold updC; rw [if_pos rfl]; exact Drawn.all (Drawn.one w0)
theorem updC.low {w0 w : World} {b : Nat} {o : Obj} (h : updC w0 b o 0 w) : Below w0.heap.size w0 w := by unfold updC at h; rwa [if_pos rfl] at h
theorem updC.mk {w0 w : World} {b : Nat} {o : Obj} (h : Below w0.heap.size w0 w) : updC w0 b o 0 w := by unfold updC; rwa [if_pos rfl]
theorem updC.put {w0 w : World} {b : Nat} {o : Obj} (h : updC w0 b o 0 w) : updC w0 b o 1 (withBlk w b o) := by unfold updC; rw [if_neg (by omega)]; exact ⟨w, h.low, rfl⟩
theorem updC.blk {w0 w : World} {b : Nat} {o : Obj} {k g : Nat} {t : TypeId} {cs : List Value} (h : updC w0 b o k w) (hb : Blk w0 g t cs) (hg : g ≠ b) : Blk w g t cs := by
  unfold updC at h
  split at h
  · exact hb.call h
  · obtain ⟨w1, h1, rfl⟩ := h
    exact (hb.call h1).grown (withBlk_grown _ _ _) (by simpa using hg)

set_option maxRecDepth 100000 in
set_option maxHeartbeats 4000000 in
theorem mput_any (g b : Nat) (L : MarksL) (p : MKey) (m : Mrk) (w : World) (ds : List (List UInt8)) (h : MarksAt w g b L) (hp : MKOK p) (hm : m.ok) (hd : PathAt w m ds) :
    Calls Try.prog 7 #[.pointer (some ⟨g, 0, none⟩), .int .i64 p.1, .agg (p.2.map B).toArray, markA m] w fun e w' => e = .returned (.int .i64 (putM L p m)) ∧ Touched [b] w w' ∧
      (putM L p m = 0 → ∃ A c, MarksAt w' g b (L ++ [(p, m.at A c)]) ∧ PathAt w' (m.at A c) ds) ∧ (putM L p m ≠ 0 → MarksAt w' g b L) := by
  obtain ⟨c, hc, hce, -⟩ := h.look hp
  obtain ⟨ok, hok⟩ : ∃ ok, ok = (lookM L p).isSome := ⟨_, rfl⟩
  have hlk : ∀ w', MarksAt w' g b L → (Instr.lookup 58 (.map (some b)) (mkA p) true).run Try.prog w' = .ok (.tuple #[markA c, .bool ok]) w' := by
    intro w' h'
    obtain ⟨c', _, e, h2⟩ := h'.look hp
    rw [hce, ← e, hok]; exact h2
  have HLK := Lib.hid hlk
  have HC := Lib.hid h
  have HP := Lib.hid hp; have HM := Lib.hid hm
  have HX := Lib.hid (show (p.2.map B).length = 32 by rw [List.length_map, hp.2])
  have HCL := Lib.hid (markV_length hc)
  have HC1 := Lib.hid (markV_one c)
  have HML := Lib.hid (markV_length hm)
  have HKB := Lib.hid (build_mkey hp)
  have HNL := Lib.hid (markV_length noMrk_ok)
  have HR := Lib.hid (fun w => mright_any m w hm)
  have HCC := Lib.hid (fun (w' : World) (hg : Grow w w') => show Calls Try.prog 21 #[.agg (markV m).toArray] w' fun e w2 => ∃ A c2, e = .returned (.agg (markV (m.at A c2)).toArray) ∧ PathAt w2 (m.at A c2) ds ∧ (∀ k, A.map Addr.block = some k → w'.heap.size ≤ k) ∧ Grow w' w2 from mclone_any m ds w' hm (hd.grow hg))
  obtain ⟨r, hr⟩ : ∃ r, r = putM L p m := ⟨_, rfl⟩
  rw [← hr]
  have HRR := Lib.hid hr
  have HOK := Lib.hid hok
  obtain ⟨rm, hrm⟩ : ∃ rm, rm = rightM m := ⟨_, rfl⟩
  rw [← hrm] at HR
  have HRM := Lib.hid hrm
  have hpw := hp.1
  clear hok hce hp hlk hc hm hr hrm hd
  obtain ⟨pi, hpi⟩ : ∃ pi, pi = p.1 := ⟨_, rfl⟩
  obtain ⟨ys, hys⟩ : ∃ ys, ys = p.2.map B := ⟨_, rfl⟩
  obtain ⟨xs, hxs⟩ : ∃ xs, xs = mkV p := ⟨_, rfl⟩
  obtain ⟨cs, hcs⟩ : ∃ cs, cs = markV c := ⟨_, rfl⟩
  obtain ⟨ms, hms⟩ : ∃ ms, ms = markV m := ⟨_, rfl⟩
  rw [markA, ← hcs, mkA, ← hxs] at HLK
  rw [← hcs] at HCL HC1
  rw [markA, ← hms] at HR ⊢
  rw [← hms] at HCC
  rw [← hms] at HML
  rw [← hpi, ← hys] at HKB ⊢
  rw [← hxs] at HKB
  rw [← hys] at HX
  rw [← hpi] at hpw
  have HPE := Lib.hid hpi
  have HXE := Lib.hid hxs
  have HME := Lib.hid hms
  clear hxs hcs hpi hys hms
  obtain ⟨z, hz⟩ : ∃ z, z = w.heap.size := ⟨_, rfl⟩
  have hg : g < z := by rw [hz]; exact h.ltg
  have hb : b < z := by rw [hz]; exact h.ltb
  have HZ := Lib.hid hz
  clear h hz
  go_enter Try.func7, Try.ntmps7
  go_wp2_with (first | (with_reducible refine wpl_box (o := ⟨some 6, _, _, _, _, _⟩) rfl rfl rfl ?_))
  intro w1 hb1 hbw1 hsz1
  rw [← HZ.out] at hb1 hbw1 hsz1 ⊢
  go_wp2_with (first | (with_reducible refine wpl_box (o := ⟨some 7, _, _, _, _, _⟩) rfl rfl rfl ?_))
  intro w2 hb2 hbw2 hsz2
  have HB1 := Lib.hid (hb1.below hbw2 (by omega))
  have HB2 := Lib.hid hb2
  have HBW := Lib.hid (hbw1.trans (hbw2.mono (by omega)))
  have HSZ := Lib.hid hsz2
  have HC2 := Lib.hid (HC.out.below HBW.out hg hb)
  clear hb1 hb2 hbw1 hbw2 hsz1 hsz2 HC
  repeat' (first | (with_reducible refine wp_phase (id := 1) (newC w2 38 (markV noMrk) cs) [11, 12] [(0,2),(0,2),(0,2),(0,2),(0,2),(0,2),(0,2),(0,2),(0,2),(0,2),(0,2),(0,0),(1,1),(0,2)] (by kernel_rfl) (by kernel_rfl) ?_ ?_) | go_values | go_skip | go_guarded | go_step | go_upon | go_back)
  · exact newC.start
  have HF := Lib.hid (show ∀ k w', newC w2 38 (markV noMrk) cs k w' → w'.cell? ⟨g, 0, none⟩ = some (.map (some b)) from fun k w' h => (HC2.out.call (newC.low k w' h)).blk.at_ rfl)
  have HL := Lib.hid (show ∀ k w', newC w2 38 (markV noMrk) cs k w' → (Instr.lookup 58 (.map (some b)) (.agg xs.toArray) true).run Try.prog w' = .ok (.tuple #[.agg cs.toArray, .bool ok]) w' from fun k w' h => HLK.out w' (HC2.out.call (newC.low k w' h)))
  have HX1 := Lib.hid (show ∀ k w', newC w2 38 (markV noMrk) cs k w' → Blk w' z 28 ys from fun k w' h => HB1.out.call (newC.low k w' h))
  refine ph_value rfl (by first | rfl | go_simp) (fun k_ _ _ w_ hC_ => by first | (go_simp; rfl) | (go_simp; done) | rfl) (fun K hK => ?_)
  go_simp
  refine hK _ ?_
  clear hK K
  refine ph_value rfl (by first | rfl | go_simp) (fun k_ _ _ w_ hC_ => by first | (go_simp; rfl) | (go_simp; done) | rfl) (fun K hK => ?_)
  go_simp
  refine hK _ ?_
  clear hK K
  refine ph_value rfl (by first | rfl | go_simp) (fun k_ _ _ w_ hC_ => by first | (go_simp; rfl) | (go_simp; done) | rfl) (fun K hK => ?_)
  go_simp
  refine hK _ ?_
  clear hK K
  refine ph_value rfl (by first | rfl | go_simp) (fun k_ _ _ w_ hC_ => by have c1 := HF.out _ _ hC_; first | (go_simp; rfl) | (go_simp; done) | rfl) (fun K hK => ?_)
  go_simp
  refine hK _ ?_
  clear hK K
  refine ph_value rfl (by first | rfl | go_simp) (fun k_ _ _ w_ hC_ => by first | (go_simp; rfl) | (go_simp; done) | rfl) (fun K hK => ?_)
  go_simp
  refine hK _ ?_
  clear hK K
  refine ph_load rfl rfl rfl row_aid (fun k _ _ w h => HX1.out k w h) rfl HX.out ?_
  (intro K hK; go_simp; refine hK _ ?_; clear hK K)
  refine ph_value rfl (by first | rfl | go_simp) (fun k_ _ _ w_ hC_ => exec_build rfl HKB.out w_) (fun K hK => ?_)
  go_simp
  refine hK _ ?_
  clear hK K
  refine ph_value rfl (by first | rfl | go_simp) (fun k_ _ _ w_ hC_ => by have c1 := HL.out _ _ hC_; first | (go_simp; rfl) | (go_simp; done) | rfl) (fun K hK => ?_)
  go_simp
  refine hK _ ?_
  clear hK K
  refine ph_value rfl (by first | rfl | go_simp) (fun k_ _ _ w_ hC_ => by first | (go_simp; rfl) | (go_simp; done) | rfl) (fun K hK => ?_)
  go_simp
  refine hK _ ?_
  clear hK K
  refine ph_value rfl (by first | rfl | go_simp) (fun k_ _ _ w_ hC_ => by first | (go_simp; rfl) | (go_simp; done) | rfl) (fun K hK => ?_)
  go_simp
  refine hK _ ?_
  clear hK K
  refine ph_value rfl (by first | rfl | go_simp) (fun k_ _ _ w_ hC_ => by first | (go_simp; rfl) | (go_simp; done) | rfl) (fun K hK => ?_)
  go_simp
  refine hK _ ?_
  clear hK K
  refine ph_alloc 0 rfl rfl rfl rfl rfl zero_mark newC.lay ?_
  (intro K hK; go_simp; refine hK _ ?_; clear hK K)
  refine ph_store 1 rfl rfl rfl rfl rfl row_mark rfl rfl HCL.out HC1.out (newC.put HNL.out) ?_
  (intro K hK; go_simp; refine hK _ ?_; clear hK K)
  refine ph_value rfl (by first | rfl | go_simp) (fun k_ _ _ w_ hC_ => by first | (go_simp; rfl) | (go_simp; done) | rfl) (fun K hK => ?_)
  go_simp
  refine hK _ ?_
  clear hK K
  refine ph_nil ?_
  intro w3 ⟨hl3, hs3, hx3⟩
  have HB1' := Lib.hid (HB1.out.call hl3)
  have HB2' := Lib.hid (HB2.out.call hl3)
  have HL3 := Lib.hid (HBW.out.trans (hl3.mono (by rw [HSZ.out]; omega)))
  have HS3 := Lib.hid (show z + 3 = w3.heap.size by rw [hs3, HSZ.out])
  have HC3 := Lib.hid (HC2.out.call hl3)
  clear hl3 hs3 hx3 HF HL HX1 HC2 HB1 HB2 HBW HLK
  generalize w2.heap.size = xa
  have HG3 := Lib.hid (show Grow w w3 by have := HL3.out; rw [HZ.out] at this; exact this)
  have HT3 := Lib.hid (Touched.of_below (l := [b]) (show Below w.heap.size w w3 by rw [← HZ.out]; exact HL3.out))
  by_cases h1 : pi ≠ 0 ∧ pi ≠ 1
  · have e : r = 1 := by rw [HRR.out, putM, if_pos (by rw [← HPE.out]; exact h1)]
    have HE := Lib.hid e; clear e
    have b1 : (pi != 0) = true := bne_iff_ne.2 h1.1
    have b2 : (pi != 1) = true := bne_iff_ne.2 h1.2
    go_wp2_with fail
    go_ret
    exact ⟨ret_int HE.out.symm, HT3.out, fun h => by have := HE.out; omega, fun _ => HC3.out⟩
  have hN1 : ¬ (p.1 ≠ 0 ∧ p.1 ≠ 1) := by rw [← HPE.out]; exact h1
  have HN1 := Lib.hid hN1
  clear hN1
  have hp01 : pi = 0 ∨ pi = 1 := by omega
  clear h1
  have HPIE := Lib.hid hp01
  have WALK : ∀ (Q : Exit → Act → World → Prop), True := fun _ => trivial
  clear WALK
  have hsel : ((pi != 0) = false) ∨ ((pi != 0) = true ∧ (pi != 1) = false) := by rcases hp01 with rfl | rfl <;> simp
  clear hp01
  rcases hsel with b1 | ⟨b1, b2⟩
  all_goals
    go_wp2_with (first | (with_reducible refine wpl_loadb (o := ⟨some 30, _, _, _, _, _⟩) rfl rfl row_mark HB2'.out rfl HML.out ?_))
    refine (HR.out _).mono ?_
    rintro e w4 ⟨rfl, hb4⟩
    have HB1q := Lib.hid (HB1'.out.call hb4)
    have HB2q := Lib.hid (HB2'.out.call hb4)
    have HC4 := Lib.hid (HC3.out.call hb4)
    have HT4 := Lib.hid (HT3.out.step hb4)
    have HG4 := Lib.hid (show Grow w w4 from HG3.out.grow' hb4)
    clear HG3
    clear hb4 HB1' HB2' HC3 HT3 HL3
    cases rm with
    | false =>
      have e : r = 16 := by rw [HRR.out, putM, if_neg HN1.out, if_pos HRM.out.symm]
      have HE := Lib.hid e; clear e
      go_wp2_with fail
      go_ret
      exact ⟨ret_int HE.out.symm, HT4.out, fun h => by have := HE.out; omega, fun _ => HC4.out⟩
    | true =>
      have hN2 : ¬ rightM m = false := by rw [← HRM.out]; simp
      have HN2 := Lib.hid hN2; clear hN2
      cases ok with
      | true =>
        have e : r = 24 := by rw [HRR.out, putM, if_neg HN1.out, if_neg HN2.out, ← HOK.out, if_pos rfl]
        have HE := Lib.hid e; clear e
        go_wp2_with fail
        go_ret
        exact ⟨ret_int HE.out.symm, HT4.out, fun h => by have := HE.out; omega, fun _ => HC4.out⟩
      | false =>
        have c3 : w4.cell? ⟨g, 0, none⟩ = some (.map (some b)) := HC4.out.blk.at_ rfl
        obtain ⟨es, clock, hm1, hm2, hm3⟩ := HC4.out.map
        have ee : es.size = L.length := by rw [← kvs_length, hm3]; simp [encM]
        have hl := fun ty => run_len_map w4 58 ty b es clock Try.underlying58 hm1
        simp only [ee] at hl
        obtain ⟨n, hn⟩ : ∃ n, n = L.length := ⟨_, rfl⟩
        rw [← hn] at hl
        have HM1 := Lib.hid hm1; have HM2 := Lib.hid hm2; have HM3 := Lib.hid hm3
        have HNL2 := Lib.hid hn
        clear hm1 hm2 hm3 ee hn
        by_cases h5 : 128 ≤ n
        · have e : r = 18 := by rw [HRR.out, putM, if_neg HN1.out, if_neg HN2.out, ← HOK.out, if_neg (by simp), ← HNL2.out, if_pos h5]
          have HE := Lib.hid e; clear e
          go_wp2_with fail
          go_ret
          exact ⟨ret_int HE.out.symm, HT4.out, fun h => by have := HE.out; omega, fun _ => HC4.out⟩
        have e : r = 0 := by rw [HRR.out, putM, if_neg HN1.out, if_neg HN2.out, ← HOK.out, if_neg (by simp), ← HNL2.out, if_neg h5]
        have HE := Lib.hid e; clear e
        obtain ⟨lx, hx⟩ := keyOf_mk p HP.out
        have hno : ∀ q ∈ kvs es, q.1 ≠ mkA p := by
          intro q hq e
          rw [HM3.out] at hq
          obtain ⟨en, hen, rfl⟩ := List.mem_map.1 hq
          exact lookM_none HOK.out.symm en hen (mkA_inj e)
        have hlo : ∀ A c2, LMOK (L ++ [(p, m.at A c2)]) := by
          intro A c2
          refine ⟨fun e he => ?_, ?_⟩
          · rcases List.mem_append.1 he with he | he
            · exact HC4.out.ok.1 e he
            · have : e = (p, m.at A c2) := by simpa using he
              subst this; exact ⟨HP.out, Mrk.at_ok HM.out A c2⟩
          · rw [List.map_append, List.nodup_append]
            refine ⟨HC4.out.ok.2, by simp, fun a ha b' hb' e => ?_⟩
            obtain ⟨en, hen, rfl⟩ := List.mem_map.1 ha
            have hb2 : b' = p := by simpa using hb'
            exact lookM_none HOK.out.symm en hen (e.trans hb2)
        have HXK := Lib.hid hx; have HNO := Lib.hid hno; have HLO := Lib.hid hlo
        clear hx hno hlo
        go_wp2_with fail
        clear hl c3
        have HI := Lib.hid (show At w4 z 28 32 ys from at_mk HB1q.out HX.out)
        have HMB := Lib.hid (show At w4 (z + 1) 38 138 ms from at_mk HB2q.out HML.out)
        have HCW := Lib.hid (fun (w' : World) (hg : Grow w4 w') => HCC.out w' (HG4.out.grow' hg))
        have HMC := Lib.hid (fun A c2 => mark_cl (Mrk.at_ok HM.out A c2))
        obtain ⟨w_, hw⟩ : ∃ x, x = w4 := ⟨_, rfl⟩
        have HB := Lib.hid (show Below w4.heap.size w4 w_ by rw [hw]; exact Below.refl _ _)
        have HCA := Lib.hid (show MarksAt w_ g b L by rw [hw]; exact HC4.out)
        rw [← hw] at HI HMB ⊢
        clear hw HB1q HB2q
        try go_wp2_with fail
        repeat' (first | (with_reducible refine wp_plan (id := 10) Grow [0,0,0,1,0,1,0,2,4,3] (.get 0 (.get 1 (.get 2 (.get 3 (.get 4 (.get 5 (.get 6 (.get 7 (.act 8 (.act 9 .done)))))))))) (by kernel_rfl) (by kernel_rfl) Grow.refl Grow.trans ?_) | go_values | go_skip | go_guarded | go_step | go_upon | go_back)
        intro w_ hd_
        have hb_ := hd_.grow
        have HB_ := Lib.hid (HB.out.grow' hb_)
        clear HB
        have HB := HB_
        clear HB_
        have HI_ := Lib.hid (HI.out.grow hb_)
        clear HI
        have HI := HI_
        clear HI_
        have HMB_ := Lib.hid (HMB.out.grow hb_)
        clear HMB
        have HMB := HMB_
        clear HMB_
        have HCA_ := Lib.hid (HCA.out.grow hb_)
        clear HCA
        have HCA := HCA_
        clear HCA_
        clear hb_ hd_
        have c1 : w_.cell? ⟨g, 0, none⟩ = some (.map (some b)) := HCA.out.blk.at_ rfl
        iterate 6 (first | (refine pl_calm rfl rfl (by first | exact wanted_none rfl | (go_simp; done) | rfl) (fun w_ => by first | (go_simp; rfl) | (go_simp; done) | rfl) (fun K hK => ?_); go_simp; refine hK _ _ ?_; clear hK K) | (refine pl_skip rfl (by first | (go_simp; done) | rfl) (fun K hK => ?_); go_simp; refine hK _ _ ?_; clear hK K) | (refine pl_skipa rfl (by first | (go_simp; done) | rfl) (fun K hK => ?_); go_simp; refine hK _ _ ?_; clear hK K) | (refine pl_load rfl rfl (by first | exact wanted_none rfl | (go_simp; done) | rfl) rfl (by first | rfl | (go_simp; rfl)) (by kernel_rfl) (by first | exact c1) (fun K hK => ?_); go_simp; refine hK _ _ ?_; clear hK K) | (refine pl_loadnow rfl rfl (by first | exact wanted_none rfl | (go_simp; done) | rfl) rfl (by first | rfl | (go_simp; rfl)) (by kernel_rfl) (by first | exact c1) (fun K hK => ?_); go_simp; refine hK _ _ ?_; clear hK K) | (refine pl_loadb rfl rfl (by first | exact wanted_none rfl | (go_simp; done) | rfl) rfl row_aid HI.out.blk (by first | rfl | (go_simp; done) | rfl) HI.out.len (fun K hK => ?_); go_simp; refine hK _ _ ?_; clear hK K) | (refine pl_loadbnow rfl rfl (by first | exact wanted_none rfl | (go_simp; done) | rfl) rfl row_aid HI.out.blk (by first | rfl | (go_simp; done) | rfl) HI.out.len (fun K hK => ?_); go_simp; refine hK _ _ ?_; clear hK K))
        refine pl_calm rfl rfl (by exact wanted_none rfl) (fun w_ => by exact exec_build rfl HKB.out w_) (fun K hK => ?_)
        go_simp
        refine hK _ _ ?_
        clear hK K
        iterate 1 (first | (refine pl_calm rfl rfl (by first | exact wanted_none rfl | (go_simp; done) | rfl) (fun w_ => by first | (go_simp; rfl) | (go_simp; done) | rfl) (fun K hK => ?_); go_simp; refine hK _ _ ?_; clear hK K) | (refine pl_skip rfl (by first | (go_simp; done) | rfl) (fun K hK => ?_); go_simp; refine hK _ _ ?_; clear hK K) | (refine pl_skipa rfl (by first | (go_simp; done) | rfl) (fun K hK => ?_); go_simp; refine hK _ _ ?_; clear hK K) | (refine pl_loadb rfl rfl (by first | exact wanted_none rfl | (go_simp; done) | rfl) rfl row_mark HMB.out.blk (by first | rfl | (go_simp; done) | rfl) HMB.out.len (fun K hK => ?_); go_simp; refine hK _ _ ?_; clear hK K) | (refine pl_loadbnow rfl rfl (by first | exact wanted_none rfl | (go_simp; done) | rfl) rfl row_mark HMB.out.blk (by first | rfl | (go_simp; done) | rfl) HMB.out.len (fun K hK => ?_); go_simp; refine hK _ _ ?_; clear hK K))
        refine pl_act rfl (by exact wanted_none rfl) (fun K hK => ?_)
        go_wp2_with fail
        refine (HCW.out _ HB.out).mono ?_
        rintro e w2_ ⟨A, c2, rfl, hpt, hfr, hb_⟩
        have HPT := Lib.hid hpt
        have HYC := Lib.hid (HMC.out A c2)
        obtain ⟨yv, hyv⟩ : ∃ q, q = markV (m.at A c2) := ⟨_, rfl⟩
        rw [← hyv] at HYC ⊢
        have HYV := Lib.hid hyv
        have HFU := Lib.hid hb_
        clear hpt hfr c1 hyv hb_
        go_wp2_with fail
        refine hK _ _ (fun _ => HFU.out) ?_
        clear hK K
        have hb_ := HFU.out
        clear HFU
        have hb_ := hb_
        clear hb_
        have HB_ := Lib.hid (HB.out.grow' hb_)
        clear HB
        have HB := HB_
        clear HB_
        have HCA_ := Lib.hid (HCA.out.grow hb_)
        clear HCA
        have HCA := HCA_
        clear HCA_
        clear hb_
        try clear w_
        rename World => w_
        refine pl_act rfl (by exact wanted_none rfl) (fun K hK => ?_)
        have HU := Lib.hid (run_mapUpdate_no kl_mkey Try.underlying58 ((HB.out.block b HC4.out.ltb).trans HM1.out) HM2.out HXK.out HNO.out (.agg yv.toArray))
        rw [mkA, ← HXE.out] at HU
        have hrun := HU.out
        go_wp2_with fail
        refine hK _ _ (fun h => by cases h) ?_
        clear hK K hrun HU
        refine pl_done ?_
        have hgr := withBlk_grown w_ b (.map (es.push { key := .agg xs.toArray, val := .agg yv.toArray, born := clock }) (clock + 1))
        have HGR := Lib.hid hgr
        clear hgr
        go_wp2_with fail
        go_ret
        refine ⟨ret_int HE.out.symm, (HT4.out.step HB.out).grown HGR.out (.inl (by simp)), fun _ => ⟨A, c2, ⟨HCA.out.blk.grown HGR.out (by simpa using HC4.out.ne), ⟨_, _, withBlk_heap ((HB.out.block b HC4.out.ltb).trans HM1.out), ?_, ?_⟩, HLO.out A c2, HC4.out.ne⟩, ?_⟩, fun h => absurd HE.out h⟩
        · have := HM2.out.push HXK.out HNO.out (.agg yv.toArray)
          rw [mkA, ← HXE.out] at this; exact this
        · rw [kvs_push, HM3.out, HXE.out, HYV.out]
          simp [encM, mkA, markA]
        · exact PathAt.map HPT.out (by exact (HB.out.block b HC4.out.ltb).trans HM1.out) HGR.out
end Go.Proofs.Ytofhohofaedokaa

/- Old, on both sides. -/
namespace Go.Proofs.Ytofhohofaedokaa
open Go.RowKit
set_option linter.unusedVariables false
def oldB (x y : Int) : Bool := inB x 0 1099511627776 && inB y 0 1099511627776 && decide (x + 2 < y)
theorem oldB_iff {x y : Int} : oldB x y = true ↔ (0 ≤ x ∧ x ≤ 1099511627776) ∧ (0 ≤ y ∧ y ≤ 1099511627776) ∧ x + 2 < y := by
  unfold oldB inB; simp; omega
theorem oldB_no {x y : Int} (h : ¬ oldB x y = true) : oldB x y = false := by simpa using h
theorem old_any (x y : Int) (w : World) (hx : I64 x) (hy : I64 y) {r : Bool} (hr : oldB x y = r) : Calls Try.prog 17 #[.int .i64 x, .int .i64 y] w fun e w' => e = .returned (.bool r) ∧ w = w' := by
  rw [← hr]; exact mold_any x y w hx hy
theorem rold_any (x y : Int) (w : World) (hx : I64 x) (hy : I64 y) {r : Bool} (hr : oldB x y = r) : Calls Try.prog 22 #[.int .i64 x, .int .i64 y] w fun e w' => e = .returned (.bool r) ∧ w = w' := by
  obtain ⟨hx1, hx2⟩ := hx
  obtain ⟨hy1, hy2⟩ := hy
  by_cases h1 : 0 ≤ x
  · by_cases h2 : x ≤ 1099511627776
    · by_cases h3 : 3 ≤ y
      · by_cases h4 : y ≤ 1099511627776
        · by_cases h5 : x < y - 2
          · obtain rfl : r = true := by rw [← hr]; exact oldB_iff.2 ⟨⟨h1, h2⟩, ⟨by omega, h4⟩, by omega⟩
            clear hr
            go_enter Try.func22, Try.ntmps22
            go_wp2
            go_ret
            exact ⟨rfl, rfl⟩
          · obtain rfl : r = false := by rw [← hr]; exact oldB_no (fun h => by have := oldB_iff.1 h; omega)
            have d5 : decide (x < y - 2) = false := by simpa using h5
            clear hr
            go_enter Try.func22, Try.ntmps22
            go_wp2
            go_ret
            exact ⟨rfl, rfl⟩
        · obtain rfl : r = false := by rw [← hr]; exact oldB_no (fun h => by have := oldB_iff.1 h; omega)
          have d4 : decide (y ≤ 1099511627776) = false := by simpa using h4
          clear hr
          go_enter Try.func22, Try.ntmps22
          go_wp2
          go_ret
          exact ⟨rfl, rfl⟩
      · obtain rfl : r = false := by rw [← hr]; exact oldB_no (fun h => by have := oldB_iff.1 h; omega)
        have d3 : decide (3 ≤ y) = false := by simpa using h3
        clear hr
        go_enter Try.func22, Try.ntmps22
        go_wp2
        go_ret
        exact ⟨rfl, rfl⟩
    · obtain rfl : r = false := by rw [← hr]; exact oldB_no (fun h => by have := oldB_iff.1 h; omega)
      have d2 : decide (x ≤ 1099511627776) = false := by simpa using h2
      clear hr
      go_enter Try.func22, Try.ntmps22
      go_wp2
      go_ret
      exact ⟨rfl, rfl⟩
  · obtain rfl : r = false := by rw [← hr]; exact oldB_no (fun h => by have := oldB_iff.1 h; omega)
    have d1 : decide (0 ≤ x) = false := by simpa using h1
    clear hr
    go_enter Try.func22, Try.ntmps22
    go_wp2
    go_ret
    exact ⟨rfl, rfl⟩

end Go.Proofs.Ytofhohofaedokaa

/- The contracts of marks.keys and marks.Prune. -/
namespace Go.Proofs.Ytofhohofaedokaa
open Go.RowKit Go.Maps Go.Sort Go.Shelf
set_option linter.unusedVariables false
theorem decK_mk {k : MKey} (h : MKOK k) : (decK (mkA k)).1 = k := by
  have : mkA k = encKV ⟨k, h⟩ := rfl
  rw [this, decK_enc]
theorem kvs_keys {es : Array MapEntry} {L : MarksL} (h : kvs es = encM L) (hl : LMOK L) : (es.toList.map dkK).map (·.1) = L.map (·.1) := by
  have e1 : (es.toList.map dkK).map (·.1) = (kvs es).map (fun p => (decK p.1).1) := by unfold kvs; rw [List.map_map, List.map_map]; rfl
  rw [e1, h]; unfold encM; rw [List.map_map]
  refine List.map_congr_left fun e he => ?_
  exact decK_mk (hl.1 e he).1
theorem kvs_enc {es : Array MapEntry} {L : MarksL} (h : kvs es = encM L) (hl : LMOK L) : ∀ en ∈ es.toList, ∃ p : KeyS, en.key = encKV p := by
  intro en hen
  have : (en.key, en.val) ∈ kvs es := List.mem_map.2 ⟨en, hen, rfl⟩
  rw [h] at this
  obtain ⟨e, he, hee⟩ := List.mem_map.1 this
  exact ⟨⟨e.1, (hl.1 e he).1⟩, by simp only [Prod.mk.injEq] at hee; exact hee.1.symm⟩
set_option maxRecDepth 100000 in
set_option maxHeartbeats 1000000 in
theorem mkeys_any (g b : Nat) (L : MarksL) (w : World) (h : MarksAt w g b L) (hn : L.length ≤ 1000000) :
    Calls Try.prog 23 #[.pointer (some ⟨g, 0, none⟩)] w fun e w' => ∃ (v : Value) (ks : List KeyS), e = .returned v ∧ (ks.map (·.1)).Perm (L.map (·.1)) ∧ (∃ ss, ks = sortK ss) ∧ w'.ownsRow w.heap.size 64 33 v ks.length (ks.flatMap encKey) ∧ Below w.heap.size w w' := by
  have HH := Lib.hid h
  have c1 := h.blk.at_ (i := 0) rfl
  clear h
  go_enter Try.func23, Try.ntmps23
  go_wp2_with fail
  refine (kkM_any (some b) w).mono ?_
  rintro e w1 ⟨rfl, hm, hb, hlt⟩
  have HM := Lib.hid hm; have HB := Lib.hid hb; have HLT := Lib.hid hlt
  have HH1 := Lib.hid (HH.out.call hb)
  clear hm hb hlt c1
  obtain ⟨es, clock, h3, h4, h5⟩ := HH1.out.map
  have HP := Lib.hid (kvs_keys h5 HH1.out.ok)
  have hsz : es.size = L.length := by rw [← kvs_length, h5]; simp [encM]
  have HS := Lib.hid (sfdK_any 54 #[.pointer (some ⟨w.heap.size, 0, none⟩)] (enters_of Try.func54 (by kernel_rfl) rfl) _ es.size (by omega) w1 (kkM_gives 1 (by omega) w.heap.size b clock es (kvs_enc h5 HH1.out.ok) h4 w1 HLT.out HM.out h3))
  clear h3 h4 h5 hsz
  obtain ⟨zz, hzz⟩ : ∃ z, z = w.heap.size := ⟨_, rfl⟩
  rw [← hzz] at HS HB ⊢
  have HZ := Lib.hid hzz
  clear hzz
  go_wp2_with fail
  refine HS.out.mono ?_
  rintro e w2 ⟨v, ss, rfl, hS, hrow, hnil, hb2⟩
  have HR2 := Lib.hid hrow; have HB2 := Lib.hid hb2; have HS2 := Lib.hid hS
  clear hS hrow hnil hb2 HS
  go_wp2_with fail
  go_ret
  refine ⟨v, sortK ss, rfl, ?_, ⟨ss, rfl⟩, ?_, ?_⟩
  · rw [← HP.out]; exact ((sortK_perm ss).trans HS2.out).map _
  · rw [sortK_len]
    have := HR2.out
    exact ⟨this.1, this.2.imp id (fun ⟨a, b', c, h1, h2, h3⟩ => ⟨a, b', c, h1, Nat.le_trans HB.out.size h2, h3⟩)⟩
  · have hq := HB.out.trans (HB2.out.mono (by rw [HZ.out]; exact HB.out.size))
    rw [HZ.out] at hq; exact hq
end Go.Proofs.Ytofhohofaedokaa

/- The contracts of marks.keys and marks.Prune. -/
import Derived.Test.YtolbbhbfbpiljaaKeyM
import Derived.Test.YtolbbhbfbpiljaaMarkF
namespace Go.Proofs.Ytolbbhbfbpiljaa
open Go.RowKit Go.Maps Go.Sort Go.Shelf
set_option linter.unusedVariables false
theorem decK_mk {k : MKey} (h : MKOK k) : (decK (mkA k)).1 = k := by
  have : mkA k = encKV ⟨k, h⟩ := rfl
  rw [this, decK_enc]
theorem kvs_keys {es : Array MapEntry} {L : MarksL} (h : kvs es = encM L) (hl : LMOK L) : (es.toList.map dkK).map (·.1) = L.map (·.1) := by
  have e1 : (es.toList.map dkK).map (·.1) = (kvs es).map (fun p => (decK p.1).1) := by unfold kvs; rw [List.map_map, List.map_map]; rfl
  rw [e1, h]; unfold encM; rw [List.map_map]
  refine List.map_congr_left fun e he => ?_
  exact decK_mk (hl.1 e he).1
theorem kvs_enc {es : Array MapEntry} {L : MarksL} (h : kvs es = encM L) (hl : LMOK L) : ∀ en ∈ es.toList, ∃ p : KeyS, en.key = encKV p := by
  intro en hen
  have : (en.key, en.val) ∈ kvs es := List.mem_map.2 ⟨en, hen, rfl⟩
  rw [h] at this
  obtain ⟨e, he, hee⟩ := List.mem_map.1 this
  exact ⟨⟨e.1, (hl.1 e he).1⟩, by simp only [Prod.mk.injEq] at hee; exact hee.1.symm⟩
set_option maxRecDepth 100000 in
set_option maxHeartbeats 1000000 in
theorem mkeys_any (g b : Nat) (L : MarksL) (w : World) (h : MarksAt w g b L) (hn : L.length ≤ 1000000) :
    Calls Try.prog 51 #[.pointer (some ⟨g, 0, none⟩)] w fun e w' => ∃ (v : Value) (ks : List KeyS), e = .returned v ∧ (ks.map (·.1)).Perm (L.map (·.1)) ∧ (∃ ss, ks = sortK ss) ∧ w'.ownsRow w.heap.size 112 33 v ks.length (ks.flatMap encKey) ∧ Below w.heap.size w w' := by
  have HH := Lib.hid h
  have c1 := h.blk.at_ (i := 0) rfl
  clear h
  go_enter Try.func51, Try.ntmps51
  go_wp2_with fail
  refine (kkM_any (some b) w).mono ?_
  rintro e w1 ⟨rfl, hm, hb, hlt⟩
  have HM := Lib.hid hm; have HB := Lib.hid hb; have HLT := Lib.hid hlt
  have HH1 := Lib.hid (HH.out.call hb)
  clear hm hb hlt c1
  obtain ⟨es, clock, h3, h4, h5⟩ := HH1.out.map
  have HP := Lib.hid (kvs_keys h5 HH1.out.ok)
  have hsz : es.size = L.length := by rw [← kvs_length, h5]; simp [encM]
  have HS := Lib.hid (sfdK_any 109 #[.pointer (some ⟨w.heap.size, 0, none⟩)] (enters_of Try.func109 (by kernel_rfl) rfl) _ es.size (by omega) w1 (kkM_gives 1 (by omega) w.heap.size b clock es (kvs_enc h5 HH1.out.ok) h4 w1 HLT.out HM.out h3))
  clear h3 h4 h5 hsz
  obtain ⟨zz, hzz⟩ : ∃ z, z = w.heap.size := ⟨_, rfl⟩
  rw [← hzz] at HS HB ⊢
  have HZ := Lib.hid hzz
  clear hzz
  go_wp2_with fail
  refine HS.out.mono ?_
  rintro e w2 ⟨v, ss, rfl, hS, hrow, hnil, hb2⟩
  have HR2 := Lib.hid hrow; have HB2 := Lib.hid hb2; have HS2 := Lib.hid hS
  clear hS hrow hnil hb2 HS
  go_wp2_with fail
  go_ret
  refine ⟨v, sortK ss, rfl, ?_, ⟨ss, rfl⟩, ?_, ?_⟩
  · rw [← HP.out]; exact ((sortK_perm ss).trans HS2.out).map _
  · rw [sortK_len]
    have := HR2.out
    exact ⟨this.1, this.2.imp id (fun ⟨a, b', c, h1, h2, h3⟩ => ⟨a, b', c, h1, Nat.le_trans HB.out.size h2, h3⟩)⟩
  · have hq := HB.out.trans (HB2.out.mono (by rw [HZ.out]; exact HB.out.size))
    rw [HZ.out] at hq; exact hq
end Go.Proofs.Ytolbbhbfbpiljaa

/- The contract of locks.Of. -/
import Derived.Test.YtolbbhbfbpiljaaLockG
namespace Go.Proofs.Ytolbbhbfbpiljaa
open Go.RowKit Go.Sort
set_option linter.unusedVariables false
theorem lookL_mem {L : LocksL} {e : PtK × LockV} (h : e ∈ L) (hd : (L.map (·.1)).Nodup) : lookL L e.1 = some e.2 := by
  unfold lookL
  induction L with
  | nil => cases h
  | cons x L ih =>
    rw [List.map_cons, List.nodup_cons] at hd
    by_cases hx : (x.1 == e.1) = true
    · rw [List.find?_cons_of_pos (by exact hx)]
      rcases List.mem_cons.1 h with rfl | h2
      · rfl
      · exact absurd (List.mem_map_of_mem (f := fun x : PtK × LockV => x.1) h2) (by show e.1 ∉ _; rw [← eq_of_beq hx]; exact hd.1)
    · rw [List.find?_cons_of_neg (by simpa using hx)]
      rcases List.mem_cons.1 h with rfl | h2
      · simp at hx
      · exact ih h2 hd.2
def heldFor (L : LocksL) (id : List UInt8) (p : PtK) : Bool := decide (((lookL L p).getD noLock).2 = id)
theorem held_perm {L : LocksL} {ks : List PtS} {id : List UInt8} (hp : (ks.map (·.1)).Perm (L.map (·.1))) (hd : (L.map (·.1)).Nodup) :
    ((ks.filter fun x => heldFor L id x.1).map (·.1)).Perm ((L.filter fun e => decide (e.2.2 = id)).map (·.1)) := by
  have e1 : (ks.filter fun x => heldFor L id x.1).map (·.1) = (ks.map (·.1)).filter (heldFor L id) := by rw [List.filter_map]; rfl
  have e2 : (L.filter fun e => decide (e.2.2 = id)).map (·.1) = (L.map (·.1)).filter (heldFor L id) := by
    rw [List.filter_map]
    congr 1
    refine List.filter_congr fun e he => ?_
    show _ = decide (((lookL L e.1).getD noLock).2 = id)
    rw [lookL_mem he hd]; rfl
  rw [e1, e2]
  exact hp.filter _
set_option maxRecDepth 100000 in
set_option maxHeartbeats 2000000 in
theorem of_any (g b : Nat) (L : LocksL) (s : Int) (id : List UInt8) (w : World) (h : LocksAt w g b L s) (hi : id.length = 32) (hn : L.length ≤ 1000000) :
    Calls Try.prog 23 #[.pointer (some ⟨g, 0, none⟩), .agg (id.map B).toArray] w fun e w' => ∃ A n c ss, ∃ ks : List PtS, e = .returned (.slice A n c) ∧ OwnP w' w.heap.size A n c ks ∧ ks = (sortP ss).filter (fun x => heldFor L id x.1) ∧ ((sortP ss).map (·.1)).Perm (L.map (·.1)) ∧ (ks.map (·.1)).Perm ((L.filter fun e => decide (e.2.2 = id)).map (·.1)) ∧ Below w.heap.size w w' := by
  have HH := Lib.hid h; have HI := Lib.hid hi; have HN := Lib.hid hn
  have HIL := Lib.hid (show (id.map B).length = 32 by rw [List.length_map, hi])
  obtain ⟨is, his⟩ : ∃ q, q = id.map B := ⟨_, rfl⟩
  have HIE := Lib.hid his
  rw [← his] at HIL ⊢
  obtain ⟨z, hz⟩ : ∃ z, z = w.heap.size := ⟨_, rfl⟩
  have hg : g < z := by rw [hz]; exact h.ltg
  have hb : b < z := by rw [hz]; exact h.ltb
  have HZ := Lib.hid hz
  rw [← hz]
  clear h hi hn his hz
  go_enter Try.func23, Try.ntmps23
  go_wp2_with (first | (with_reducible refine wpl_box (o := ⟨some 3, _, _, _, _, _⟩) rfl rfl rfl ?_))
  intro w2 hb2 hbw2 hsz2
  have HC2 := Lib.hid (show (w.alloc (.cells #[.pointer (some ⟨g, 0, none⟩)] 48)).cell? ⟨z, 0, none⟩ = some (.pointer (some ⟨g, 0, none⟩)) by rw [HZ.out]; unfold World.cell?; rw [heap_alloc_new]; rfl)
  have HBA := Lib.hid (show Below z w (w.alloc (.cells #[.pointer (some ⟨g, 0, none⟩)] 48)) from by rw [HZ.out]; exact (Below.refl _ w).alloc (Nat.le_refl _) _)
  have HSA := Lib.hid (show (w.alloc (.cells #[.pointer (some ⟨g, 0, none⟩)] 48)).heap.size = z + 1 by rw [HZ.out]; simp)
  generalize w.alloc (.cells #[.pointer (some ⟨g, 0, none⟩)] 48) = wa at *
  rw [← HZ.out] at hb2 hbw2 hsz2 ⊢
  have HL2 := Lib.hid ((HH.out.below HBA.out hg hb).below hbw2 (by omega) (by omega))
  have HBL2 := Lib.hid ((hbw2.cell (p := ⟨z, 0, none⟩) (show z < z + 1 by omega)).trans HC2.out)
  have HBI2 := Lib.hid hb2
  have HB2 := Lib.hid (HBA.out.trans (hbw2.mono (by omega)))
  have HS2 := Lib.hid (show w2.heap.size = z + 2 by omega)
  clear hb2 hbw2 hsz2 HC2 HBA HSA
  try clear wa
  have c1 := HBL2.out
  have HZZ := Lib.hid HZ.out
  go_wp2_with fail
  refine (kall_any g b L s w2 HL2.out HN.out).mono ?_
  rintro e w3 ⟨v, ks0, rfl, hp, ⟨ss, hss⟩, hrow, hb3⟩
  have HB3 := Lib.hid (HB2.out.trans (hb3.mono (by have := HS2.out; omega)))
  obtain ⟨A, n, c, rfl, hnk⟩ : ∃ A n c, v = .slice A n c ∧ n = ks0.length := by
    rcases hrow.2 with ⟨rfl, h0⟩ | ⟨gb, cap, cur, rfl, _⟩
    · exact ⟨none, 0, 0, rfl, h0.symm⟩
    · exact ⟨_, _, _, rfl, rfl⟩
  rw [← hnk] at hrow
  have HO3 := Lib.hid (show OwnP w3 w2.heap.size A n c ks0 from hrow)
  have HNK := Lib.hid (show n ≤ 1000000 by have h1 := hp.length_eq; rw [List.length_map, List.length_map] at h1; have := HN.out; omega)
  have HD := Lib.hid (show ∀ w', Below w2.heap.size w2 w' → ∀ x : PtS, Calls Try.prog 56 #[ptA x.1, .pointer (some ⟨z, 0, none⟩), .pointer (some ⟨z + 1, 0, none⟩)] w' fun e w'' => e = .returned (.bool ((fun x : PtS => !heldFor L id x.1) x)) ∧ Below w'.heap.size w' w'' from fun w' hb' x =>
    of1_any g b L s x.1 id z (z + 1) w' (HL2.out.call hb') x.2 HI.out (bcell hb' HBL2.out) (by rw [← HIE.out]; exact HBI2.out.call hb'))
  have HDE := Lib.hid (delf_any w2.heap.size w2 (Nat.le_refl _) z (z + 1) (fun x => !heldFor L id x.1) HD.out w3 hb3 HO3.out HNK.out)
  have HPP := Lib.hid hp; have HSS := Lib.hid hss
  have HB23 := Lib.hid hb3
  clear hp hss hrow hb3 hnk c1 HD HNK
  unfold ofV at HDE
  go_wp2_with fail
  refine HDE.out.mono ?_
  rintro e w4 ⟨m, rfl, ho4, hb4⟩
  have HO4 := Lib.hid ho4
  have HB4 := Lib.hid (HB2.out.trans (hb4.mono (by have := HS2.out; omega)))
  clear ho4 hb4 HDE
  go_wp2_with fail
  go_ret
  have hf : ks0.filter (fun x => !(!heldFor L id x.1)) = ks0.filter (fun x => heldFor L id x.1) := by simp
  have ho := HO4.out
  rw [hf] at ho
  refine ⟨A, m, c, ss, _, rfl, ?_, by rw [HSS.out], by rw [← HSS.out]; exact HPP.out, held_perm HPP.out HL2.out.ok.2, HB4.out⟩
  have := ho
  exact ⟨this.1, this.2.imp (fun h => h) (fun ⟨a, b', c', h1, h2, h3⟩ => ⟨a, b', c', h1, Nat.le_trans (by have := HS2.out; omega) h2, h3⟩)⟩
end Go.Proofs.Ytolbbhbfbpiljaa

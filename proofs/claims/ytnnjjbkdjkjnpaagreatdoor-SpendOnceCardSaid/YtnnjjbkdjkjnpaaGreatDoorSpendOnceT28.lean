/- The contract of locks.Put1. Printed by mklockp.py. -/
import Derived.Test.YtnnjjbkdjkjnpaaGreatDoorSpendOnceT27
import Derived.Test.YtnnjjbkdjkjnpaaGreatDoorSpendOnceT21
import Derived.Test.YtnnjjbkdjkjnpaaGreatDoorSpendOnceT13
import Derived.Test.YtnnjjbkdjkjnpaaGreatDoorRows
import Derived.Test.YtnnjjbkdjkjnpaaGreatDoorSpendOnceT4
import Derived.Test.YtnnjjbkdjkjnpaaGreatDoorSpendOnceT1
import Derived.Test.YtnnjjbkdjkjnpaaGreatDoorSpendOnceT24
import Derived.Test.YtnnjjbkdjkjnpaaGreatDoorSpendOnceT7
set_option linter.unusedSimpArgs false
/- The contract of locks.Put1. Printed by mklockp.py. -/
namespace Go.Proofs.YtnnjjbkdjkjnpaaGreatDoor
open Go.RowKit
set_option linter.unusedVariables false
theorem LocksAt.grow {w w' : World} {g b : Nat} {L : LocksL} {s : Int} (h : LocksAt w g b L s) (k : Grow w w') : LocksAt w' g b L s := h.call k
end Go.Proofs.YtnnjjbkdjkjnpaaGreatDoor
/- The contract of seisinref01.Bytes: the same bytes? -/
namespace Go.Proofs.YtnnjjbkdjkjnpaaGreatDoor
open Go.RowKit
set_option linter.unusedVariables false
end Go.Proofs.YtnnjjbkdjkjnpaaGreatDoor
/- The contract of seisinlaw21.is: locks that are the document's are told as such. Printed by mkisk.py. -/
namespace Go.Proofs.YtnnjjbkdjkjnpaaGreatDoor
open Go.RowKit Go.Maps Go.Sort Go.Shelf
set_option linter.unusedVariables false
theorem ofK_len (X : LocksL) (id : List UInt8) : (ofK X id).length ≤ X.length := by unfold ofK; rw [List.length_map]; exact List.length_filter_le _ _
end Go.Proofs.YtnnjjbkdjkjnpaaGreatDoor
/- What stays when coins and locks change; rows of points; locks let go one by one (plain). -/
namespace Go.Proofs.YtnnjjbkdjkjnpaaGreatDoor
open Go.RowKit Go.Maps Go.Sort Go.Shelf
set_option linter.unusedVariables false
theorem At.touchd {w w' : World} {q n : Nat} {T : TypeId} {xs : List Value} {l : List Nat} (h : At w q T n xs) (ht : Touched l w w') (hq : q ∉ l) : At w' q T n xs := ⟨(ht.block q h.lt hq).trans h.blk, h.len⟩
theorem CoinsAt.touchd {w w' : World} {g b : Nat} {L : CoinsL} {s : Int} {l : List Nat} (h : CoinsAt w g b L s) (ht : Touched l w w') (h1 : g ∉ l) (h2 : b ∉ l) : CoinsAt w' g b L s := by
  have hg := h.ltg; have hb := h.ltb
  obtain ⟨q1, ⟨es, clock, q2, q3, q4⟩, q5, q6⟩ := h
  exact ⟨(ht.block g hg h1).trans q1, ⟨es, clock, (ht.block b hb h2).trans q2, q3, q4⟩, q5, q6⟩
theorem LocksAt.touchd {w w' : World} {g b : Nat} {L : LocksL} {s : Int} {l : List Nat} (h : LocksAt w g b L s) (ht : Touched l w w') (h1 : g ∉ l) (h2 : b ∉ l) : LocksAt w' g b L s := by
  have hg := h.ltg; have hb := h.ltb
  obtain ⟨q1, ⟨es, clock, q2, q3, q4⟩, q5, q6⟩ := h
  exact ⟨(ht.block g hg h1).trans q1, ⟨es, clock, (ht.block b hb h2).trans q2, q3, q4⟩, q5, q6⟩
theorem At.ne_coins {w : World} {g b q n : Nat} {T : TypeId} {xs : List Value} {L : CoinsL} {s : Int} (h : At w q T n xs) (hc : CoinsAt w g b L s) (hT : T ≠ 90) : q ∉ [g, b] := by
  simp only [List.mem_cons, List.not_mem_nil, or_false, not_or]
  constructor
  · rintro rfl
    have h1 := hc.blk; have h2 := h.blk
    unfold Blk at h1 h2
    rw [h1] at h2
    injection h2 with h2
    injection h2 with _ h2
    exact hT h2.symm
  · rintro rfl
    obtain ⟨es, clock, h3, _⟩ := hc.map
    have h2 := h.blk
    unfold Blk at h2
    rw [h3] at h2; cases h2
theorem At.ne_locks {w : World} {g b q n : Nat} {T : TypeId} {xs : List Value} {L : LocksL} {s : Int} (h : At w q T n xs) (hc : LocksAt w g b L s) (hT : T ≠ 99) : q ∉ [g, b] := by
  simp only [List.mem_cons, List.not_mem_nil, or_false, not_or]
  constructor
  · rintro rfl
    have h1 := hc.blk; have h2 := h.blk
    unfold Blk at h1 h2
    rw [h1] at h2
    injection h2 with h2
    injection h2 with _ h2
    exact hT h2.symm
  · rintro rfl
    obtain ⟨es, clock, h3, _⟩ := hc.map
    have h2 := h.blk
    unfold Blk at h2
    rw [h3] at h2; cases h2
theorem NatsAt.touchC {w w' : World} {g b lo : Nat} {A : Option Addr} {ks : List Nat} {L : CoinsL} {s : Int} (h : NatsAt w lo A ks) (hc : CoinsAt w g b L s) (ht : Touched [g, b] w w') : NatsAt w' lo A ks :=
  h.off (fun q hq hn => by
    obtain ⟨q', off, x, h1, h2, h3⟩ := h.first hn
    rw [h1] at hq
    obtain rfl : q' = q := Option.some.inj hq
    refine ht.block q' h2 ?_
    simp only [List.mem_cons, List.not_mem_nil, or_false, not_or]
    constructor
    · rintro rfl
      have h5 := hc.blk.cell off
      rw [h3] at h5
      match off, h5 with
      | 0, h5 => cases h5
      | 1, h5 => cases h5
      | k + 2, h5 => cases h5
    · rintro rfl
      obtain ⟨es, clock, h6, _⟩ := hc.map
      obtain ⟨o, h7, h8⟩ := cells_of_cell h3
      rw [h6] at h7; cases h7; cases h8) ht.size
theorem below_touch {w0 w w' : World} {l : List Nat} (hb : Below w0.heap.size w0 w) (ht : Touched l w w') (h : ∀ x ∈ l, w0.heap.size ≤ x) : Below w0.heap.size w0 w' :=
  hb.trans (ht.below (fun k hk => h k hk) hb.size)
theorem Touched.grow {w0 w w' : World} {l : List Nat} (h : Touched l w0 w) (k : Grow w w') : Touched l w0 w' := h.trans (Touched.of_below k)
/-- A row of points in a block at or behind lo. -/
def PtsAt (w : World) (lo : Nat) (A : Option Addr) (l : List PtK) : Prop := RowPt w A l.length l ∧ ∀ q, A.map Addr.block = some q → lo ≤ q
theorem PtsAt.grow {w w' : World} {lo : Nat} {A : Option Addr} {l : List PtK} (h : PtsAt w lo A l) (k : Grow w w') : PtsAt w' lo A l := ⟨h.1.grow k, h.2⟩
theorem PtsAt.less {w : World} {lo lo' : Nat} {A : Option Addr} {l : List PtK} (h : PtsAt w lo A l) (k : lo' ≤ lo) : PtsAt w lo' A l := ⟨h.1, fun q hq => Nat.le_trans k (h.2 q hq)⟩
theorem PtsAt.touchd {w w' : World} {lo : Nat} {A : Option Addr} {l : List PtK} {bs : List Nat} (h : PtsAt w lo A l) (ht : Touched bs w w') (hl : ∀ x ∈ bs, x < lo) : PtsAt w' lo A l :=
  ⟨⟨(Sl.touchd h.1.1 ht (Nat.le_refl _) (fun q hq hm => by have := h.2 q hq; have := hl q hm; omega)).more ht.size, h.1.2⟩, h.2⟩
theorem kof_pts {g b : Nat} {X L : LocksL} {s : Int} (hr : RelK X L s) {id : List UInt8} (hi : id.length = 32) (w : World) (h : LocksAt w g b L s) :
    Calls Tryz.prog 25 #[.pointer (some ⟨g, 0, none⟩), .agg (id.map B).toArray] w fun e w' => ∃ A c, e = .returned (.slice A (ofK X id).length c) ∧ PtsAt w' w.heap.size A (ofK X id) ∧ Below w.heap.size w w' := by
  refine (kof_any g b L s id w h hi (by have := hr.len; omega)).mono ?_
  rintro e w' ⟨A, n, c, ss, ks, rfl, ho, hk, hp, -, hb⟩
  have h1 := hr.of_eq hk hp
  have h2 := ho.rowPt
  rw [h1] at h2
  obtain rfl : n = (ofK X id).length := h2.2.2.symm
  exact ⟨A, c, rfl, ⟨h2, own_from ho⟩, hb⟩
theorem lookL_cut_ne {Z : LocksL} {p q : PtK} (h : q ≠ p) : lookL (cutK Z p) q = lookL Z q := by
  unfold lookL cutK
  rw [List.find?_filter]
  congr 2
  funext x
  by_cases hx : x.1 = q
  · subst hx
    simp [h]
  · simp [hx]
theorem lookC_cut_ne {Z : CoinsL} {p q : PtK} (h : q ≠ p) : lookC (cutC Z p) q = lookC Z q := by
  unfold lookC cutC
  rw [List.find?_filter]
  congr 2
  funext x
  by_cases hx : x.1 = q
  · subst hx
    simp [h]
  · simp [hx]
theorem lookC_cut_eq (Z : CoinsL) (p : PtK) : lookC (cutC Z p) p = none := by
  unfold lookC cutC
  rw [List.find?_filter, Option.map_eq_none_iff, List.find?_eq_none]
  intro x _
  by_cases hx : x.1 = p <;> simp [hx]
/-- Locks let go one by one. -/
def freesR : List PtK → LocksL → Int → LocksL × Int
  | [], Y, s => (Y, s)
  | p :: r, Y, s => freesR r (cutK Y p) (w64 (s + ((lookL Y p).getD noLock).1.2))
theorem freesR_step {ps : List PtK} {k : Nat} {p : PtK} {Y : LocksL} {s : Int} (hk : ps[k]? = some p) : freesR (ps.drop k) Y s = freesR (ps.drop (k + 1)) (cutK Y p) (w64 (s + ((lookL Y p).getD noLock).1.2)) := by
  obtain ⟨hl, he⟩ := List.getElem?_eq_some_iff.1 hk
  rw [List.drop_eq_getElem_cons hl, he]; rfl
theorem frees_all : ∀ (R Z : LocksL) (s : Int), (∀ e ∈ R, lookL Z e.1 = some e.2) → (R.map (·.1)).Nodup → freesR (R.map (·.1)) Z s = (Z.filter (fun x => !decide (x.1 ∈ R.map (·.1))), sumW (R.map fun e => e.2.1.2) s)
  | [], Z, s, _, _ => by
    show (Z, s) = _
    have : Z.filter (fun x => !decide (x.1 ∈ List.map (·.1) ([] : LocksL))) = Z := by
      rw [List.filter_eq_self]; intro x _; simp
    rw [this]; rfl
  | e :: R, Z, s, h, hd => by
    rw [List.map_cons, List.nodup_cons] at hd
    have h0 := h e (List.mem_cons_self ..)
    show freesR (R.map (·.1)) (cutK Z e.1) (w64 (s + ((lookL Z e.1).getD noLock).1.2)) = _
    rw [h0, frees_all R (cutK Z e.1) _ (fun x hx => by
      rw [lookL_cut_ne (fun e2 => hd.1 (by rw [← e2]; exact List.mem_map_of_mem hx))]
      exact h x (List.mem_cons_of_mem _ hx)) hd.2]
    congr 1
    unfold cutK
    rw [List.filter_filter]
    refine List.filter_congr fun x hx => ?_
    show (!decide (x.1 ∈ R.map (·.1)) && !(x.1 == e.1)) = !decide (x.1 ∈ e.1 :: R.map (·.1))
    by_cases h1 : x.1 = e.1
    · simp [h1]
    · simp [h1, List.mem_cons, Bool.and_comm]
theorem frees_of {X L : LocksL} {s : Int} (h : RelK X L s) (id : List UInt8) : freesR (ofK X id) X 0 = (restK X id, freeR X id) := by
  have hd : (X.map (·.1)).Nodup := (h.perm.map (·.1)).nodup_iff.2 h.ok.2
  have e : ofK X id = (heldK X id).map (·.1) := rfl
  rw [e, frees_all (heldK X id) X 0 (fun x hx => lookL_mem ((List.mem_filter.1 hx).1) hd) (hd.sublist ((List.filter_sublist).map _))]
  congr 1
  unfold restK
  refine List.filter_congr fun x hx => ?_
  congr 1
  apply decide_eq_decide.2
  constructor
  · intro hm
    obtain ⟨y, hy, hyx⟩ := List.mem_map.1 hm
    have h1 := lookL_mem ((List.mem_filter.1 hy).1) hd
    have h2 := lookL_mem hx hd
    rw [hyx, h2] at h1
    have h3 := (List.mem_filter.1 hy).2
    have h4 : x.2 = y.2 := by injection h1
    rw [h4]; simpa using h3
  · intro hi
    exact List.mem_map.2 ⟨x, List.mem_filter.2 ⟨hx, by simpa using hi⟩, rfl⟩
end Go.Proofs.YtnnjjbkdjkjnpaaGreatDoor

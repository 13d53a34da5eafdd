/- Plain facts for MarksKept; a call that writes, in phases. -/
import Derived.Test.YtolbbhbfbpiljaaMarkT
namespace Go.Proofs.Ytolbbhbfbpiljaa
open Go.RowKit
set_option linter.unusedVariables false
/-- What stands behind a Put. -/
def postPut (L : MarksL) (k : MKey) (m : Mrk) : MarksL := if putM L k m = 0 then L ++ [(k, m)] else L
theorem mput3 (g b : Nat) (L : MarksL) (x y : Nat) (part e : Int) (w : World) (h : MarksAt w g b L) (hx : x < 256) (hy : y < 256) (h0 : 0 ≤ part) (h1 : part ≤ 1) (he : I64 e) :
    Calls Try.prog 12 #[.pointer (some ⟨g, 0, none⟩), .int .i64 part, idV x y, markA (someM e)] w fun e' w' => e' = .returned (.int .i64 (putM L (mi x y part) (someM e))) ∧ Touched [b] w w' ∧ MarksAt w' g b (postPut L (mi x y part) (someM e)) := by
  refine (mput2 g b L x y part e w h hx hy h0 h1 he _ rfl).mono ?_
  rintro e' w' ⟨h1, h2, h3, h4⟩
  refine ⟨h1, h2, ?_⟩
  unfold postPut
  by_cases hp : putM L (mi x y part) (someM e) = 0
  · rw [if_pos hp]; exact h3 hp
  · rw [if_neg hp]; exact h4 hp
theorem look_post {L : MarksL} {k k' : MKey} (m : Mrk) (h : k ≠ k') : lookM (postPut L k m) k' = lookM L k' := by
  unfold postPut
  split
  · unfold lookM
    rw [List.find?_append]
    have : List.find? (fun e : MKey × Mrk => e.1 == k') [(k, m)] = none := List.find?_eq_none.2 (fun e he => by rw [List.mem_singleton.1 he]; simpa using h)
    rw [this]; simp
  · rfl
theorem post_len (L : MarksL) (k : MKey) (m : Mrk) : (postPut L k m).length ≤ L.length + 1 := by unfold postPut; split <;> simp
theorem kept_le (ep : Int) (L : MarksL) : (keptM ep L).length ≤ L.length := List.length_filter_le _ _
theorem look_kept {L : MarksL} {k : MKey} {ep : Int} (hd : (L.map (·.1)).Nodup) : lookM (keptM ep L) k = (lookM L k).bind fun m => if oldB m.expiry ep = true then none else some m := by
  cases h : lookM L k with
  | none =>
    have hn := lookM_none (L := L) (p := k) (by rw [h]; rfl)
    exact lookM_no fun e he => hn e (List.mem_filter.1 he).1
  | some m =>
    unfold lookM at h
    obtain ⟨e, he, hem⟩ := Option.map_eq_some_iff.1 h
    have h1 := List.mem_of_find?_eq_some he
    have h2 : e.1 = k := by simpa using List.find?_some he
    by_cases ho : oldB m.expiry ep = true
    · show _ = if oldB m.expiry ep = true then none else some m
      rw [if_pos ho]
      refine lookM_no fun e' he' hk => ?_
      obtain ⟨h3, h4⟩ := List.mem_filter.1 he'
      have a1 := lookM_mem h3 hd
      have a2 := lookM_mem h1 hd
      rw [hk, ← h2, a2] at a1
      have a3 : e'.2 = e.2 := by injection a1 with a1; exact a1.symm
      have h5 : isOldM ep e' = true := by unfold isOldM; rw [a3, hem]; exact ho
      rw [h5] at h4; cases h4
    · show _ = if oldB m.expiry ep = true then none else some m
      rw [if_neg ho]
      have h3 : e ∈ keptM ep L := List.mem_filter.2 ⟨h1, by unfold isOldM; rw [hem]; simpa using ho⟩
      have := lookM_mem h3 (hd.sublist (List.filter_sublist.map _))
      rw [h2, hem] at this; exact this
theorem old_u8 {x y : Int} (hx0 : 0 ≤ x) (hx : x ≤ 255) (hy0 : 0 ≤ y) (hy : y ≤ 255) : oldB x y = decide (x + 2 < y) := by
  unfold oldB inB
  have e1 : decide (0 ≤ x) = true := decide_eq_true hx0
  have e2 : decide (x ≤ 1099511627776) = true := decide_eq_true (by omega)
  have e3 : decide (0 ≤ y) = true := decide_eq_true hy0
  have e4 : decide (y ≤ 1099511627776) = true := decide_eq_true (by omega)
  simp [e1, e2, e3, e4]
/-- The mark that is watched: there, or no more. -/
def watch (th : Bool) (ex : Int) : Option Mrk := if th then some (someM ex) else none
theorem watch_kept {L : MarksL} {th : Bool} {ex ep : Int} (hd : (L.map (·.1)).Nodup) (h : lookM L (mi 200 1 0) = watch th ex) (h0 : 0 ≤ ex) (h1 : ex ≤ 255) (h2 : 0 ≤ ep) (h3 : ep ≤ 255) : lookM (keptM ep L) (mi 200 1 0) = watch (th && decide (ep ≤ ex + 2)) ex := by
  rw [look_kept hd, h]
  unfold watch
  cases th
  · rfl
  · show (if oldB ex ep = true then none else some (someM ex)) = _
    rw [old_u8 h0 h1 h2 h3]
    by_cases hc : ep ≤ ex + 2
    · rw [if_neg (by simp; omega)]; simp [hc]
    · rw [if_pos (by simp; omega)]; simp [hc]
section
variable {P : Program} {C : Nat → World → Prop} {M : List Nat} {R : List (Nat × Nat)} {ops : Array Oper} {Q : Act → Prop} {rest : List Oper} {i : Nat} {a : Act} {o : Oper}
/-- A call that writes: its one phase. -/
theorem ph_callw {v : Value} {f : FuncId} {args : Array Value} (j : Nat) (hM : M.contains i = true) (hl : phLo R i = j) (hh : phHi R i = j) (hw : Region.wanted o (yielded ops a.tmps) = true)
    (h : ∀ w, (execOp a.eval o).run P w = .ok (.enter f args) w)
    (hc : ∀ w, C j w → Calls P f args w fun e w' => e = .returned v ∧ C (j + 1) w')
    (hk : ∀ K : Act → Prop, (∀ a, wpPhase P C M R ops Q rest (i + 1) a → K a) → K (a.put o.dst v)) : wpPhase P C M R ops Q (o :: rest) i a := by
  refine ph_write j hM hl hh hw (fun w hC => ?_) hk
  unfold phAt
  rw [h w]
  exact hc w hC
end
theorem MarksAt.grown {w w' : World} {g b : Nat} {L : MarksL} {row : Option Nat} (h : MarksAt w g b L) (hg : w.grownBy w' row) (h1 : some g ≠ row) (h2 : some b ≠ row) : MarksAt w' g b L := by
  obtain ⟨q1, ⟨e1, c1, q2, q3, q4⟩, q5, q6⟩ := h
  exact ⟨q1.grown hg h1, ⟨e1, c1, (hg.block b (Array.getElem?_eq_some_iff.1 q2).1 h2).trans q2, q3, q4⟩, q5, q6⟩
theorem mget3 (g b : Nat) (L : MarksL) (x y : Nat) (part : Int) (w : World) (h : MarksAt w g b L) (hx : x < 256) (hy : y < 256) (h0 : 0 ≤ part) (h1 : part ≤ 1) :
    Calls Try.prog 15 #[.pointer (some ⟨g, 0, none⟩), .int .i64 part, idV x y] w fun e w' => e = .returned (.tuple #[markA ((lookM L (mi x y part)).getD noMrk), .bool (lookM L (mi x y part)).isSome]) ∧ Below w.heap.size w w' := by
  have := mget_any g b L (mi x y part) w h (mi_ok x y part h0 (by omega))
  rw [idV_mi x y part hx hy] at this
  exact this
def C13 (w0 : World) (g b : Nat) (L1 L2 : MarksL) (k : Nat) (w : World) : Prop := Touched [b] w0 w ∧ MarksAt w g b (if k = 0 then L1 else L2)
end Go.Proofs.Ytolbbhbfbpiljaa

/- The contract of header.Follows. Printed by mkhdrf.py. -/
import Derived.Test.YtphmefhnffoafaaDoorCertFormsT15
import Derived.Test.YtphmefhnffoafaaDoorCertFormsT16
set_option linter.unusedSimpArgs false
/- The contract of header.Follows. Printed by mkhdrf.py. -/
namespace Go.Proofs.YtphmefhnffoafaaDoor
open Go.RowKit Go.Shelf
set_option linter.unusedVariables false
section
variable {P : Program} {ops : Array Oper} {am cl : List Nat} {sp : Nat → Sp} {w0 : World} {Q : Exit → Act → World → Prop} {us : List Nat} {L : List (Nat × (World → Prop))} {o : Oper} {i : Nat} {a : Act}
end
end Go.Proofs.YtphmefhnffoafaaDoor
/- A digest stored in the midst of a struct; headers built. Printed by mknext.py. -/
namespace Go.Proofs.YtphmefhnffoafaaDoor
open Go.RowKit Go.Shelf
set_option linter.unusedVariables false
theorem blk_setCells {g : Nat} {t : TypeId} : ∀ (vs : List Value) (o : Nat) (w : World) (cs : List Value), Blk w g t cs → o + vs.length ≤ cs.length → Blk (w.setCells g o vs) g t (splice cs o vs)
  | [], o, w, cs, h, _ => by simpa [splice, World.setCells] using h
  | v :: r, o, w, cs, h, hl => by
    simp only [List.length_cons] at hl
    have h1 := blk_setCells r (o + 1) _ _ (h.set_ o v) (by rw [List.length_set]; omega)
    have e : splice (cs.set o v) (o + 1) r = splice cs o (v :: r) := by
      apply List.ext_getElem?
      intro k
      rw [splice_get _ _ _ _ (by rw [List.length_set]; omega), splice_get _ _ _ _ (by simp only [List.length_cons]; omega)]
      simp only [List.length_cons]
      by_cases h1 : k = o
      · subst h1
        rw [if_neg (by omega), if_pos (by omega), List.getElem?_set, if_pos rfl, if_pos (by omega), Nat.sub_self]; rfl
      · by_cases h2 : o + 1 ≤ k ∧ k < o + 1 + r.length
        · rw [if_pos h2, if_pos (by omega), show k - o = (k - (o + 1)) + 1 by omega, List.getElem?_cons_succ]
        · rw [if_neg h2, if_neg (by omega), List.getElem?_set, if_neg (by omega)]
    rw [e] at h1
    exact h1
theorem grown_setCells (g : Nat) : ∀ (vs : List Value) (o : Nat) (w : World), w.grownBy (w.setCells g o vs) (some g) ∧ (w.setCells g o vs).heap.size = w.heap.size
  | [], o, w => ⟨⟨rfl, rfl, rfl, Nat.le_refl _, fun _ _ _ => rfl⟩, rfl⟩
  | v :: r, o, w => by
    obtain ⟨h1, h2⟩ := grown_setCells g r (o + 1) (w.setCell ⟨g, o, none⟩ v)
    exact ⟨grown_trans (grown_set w g o v) h1, h2.trans (by simp)⟩
section
variable {P : Program} {ops : Array Oper} {rest : List Oper} {o : Oper} {a : Act} {w : World} {Q : Exit → Act → World → Prop}
theorem wpl_storem (hgd : o.guard = none) {T : TypeId} {x y : Operand} (ho : o.op = .store T x y) {n : Nat} (hT : RowT P T n) {g off : Nat} {t : TypeId} {old cs : List Value} (hb : Blk w g t old) (hx : a.eval x = .pointer (some ⟨g, off, none⟩)) (hy : a.eval y = .agg cs.toArray)
    (hn : cs.length = n) (hle : off + n ≤ old.length) (h1 : ∀ u ∈ cs, u.oneCell' = true)
    (h : ∀ w', Blk w' g t (splice old off cs) → w.grownBy w' (some g) → w'.heap.size = w.heap.size → wpList P ops Q rest (a.put o.dst undef) w') : wpList P ops Q (o :: rest) a w := by
  obtain ⟨d, hu, hd, hi⟩ := hT
  refine wpList_store_mid hgd T x y ho g off cs.toArray hx hy (fun j hj => ?_) (by rw [hi]; simp [hn]) (all_oneCell_toArray h1) ?_
  · simp only [List.size_toArray] at hj
    exact ⟨by rw [hb.at_ (List.getElem?_eq_getElem (show off + j < old.length by omega))]; rfl, hb.frozen _⟩
  · obtain ⟨h2, h3⟩ := grown_setCells g cs off w
    exact h _ (blk_setCells cs off w old hb (by omega)) h2 h3
end
theorem built_hdr0 (parts : List (Nat × Value)) : Tryd.prog.built 25 parts = Instr.fill (fun i => (#[(0, 1), (1, 1), (2, 1), (3, 32), (35, 32)] : Array (Nat × Nat))[i]?) (hdrV noHdr).toArray parts := by kernel_rfl
theorem zero_hdr2 : (Tryd.prog.info? 25).map (·.zero) = some (some (.agg (hdrV noHdr).toArray)) := by rw [zeroHdr_eq]; exact zero_hdr
theorem built_hdrE : Tryd.prog.built 25 [] = some (hdrV noHdr).toArray := by rw [built_hdr0]; rfl
theorem built_hdr4 {s ep : Int} {root : List UInt8} (hr : root.length = 32) : Tryd.prog.built 25 [(0, .int .i64 s), (1, .int .i64 1), (2, .int .i64 ep), (4, .agg (root.map B).toArray)] = some (hdrV ⟨s, 1, ep, zeroD, root⟩).toArray := by
  have e0 : (root.map B).length = 32 := by rw [List.length_map, hr]
  have hz : zeroD.length = 32 := by simp [zeroD]
  rw [built_hdr0, fill_cons (off := 0) (s := 1) (cs := [.int .i64 s]) rfl rfl rfl (by simp [hdrV, noHdr]), fill_cons (off := 1) (s := 1) (cs := [.int .i64 1]) rfl rfl rfl (by simp [hdrV, noHdr, splice]),
    fill_cons (off := 2) (s := 1) (cs := [.int .i64 ep]) rfl rfl rfl (by simp [hdrV, noHdr, splice]), fill_cons (off := 35) (s := 32) (cs := root.map B) rfl rfl e0 (by simp [hdrV, noHdr, splice]), fill_nil]
  congr 2
  have h35 : (hdrV ⟨s, 1, ep, zeroD, root⟩) = ([.int .i64 s, .int .i64 1, .int .i64 ep] ++ zeroD.map B) ++ (root.map B ++ []) := by simp [hdrV]
  rw [h35]
  refine Eq.trans ?_ (splice_mid (off := 35) (old := (List.replicate 32 (0 : UInt8)).map B) (by simp [hz]) (by simp [hr]))
  rfl
theorem hdr_next {s h ep s2 h2 : Int} {prev prev2 root : List UInt8} (hp : prev.length = 32) (hq : prev2.length = 32) : splice (((hdrV ⟨s, h, ep, prev, root⟩).set 0 (.int .i64 s2)).set 1 (.int .i64 h2)) 3 (prev2.map B) = hdrV ⟨s2, h2, ep, prev2, root⟩ := by
  have e1 : ((hdrV ⟨s, h, ep, prev, root⟩).set 0 (.int .i64 s2)).set 1 (.int .i64 h2) = [.int .i64 s2, .int .i64 h2, .int .i64 ep] ++ (prev.map B ++ root.map B) := rfl
  rw [e1, splice_mid (off := 3) rfl (by simp [hp, hq])]; rfl
theorem ls_root_any {w : World} {A : Option Addr} {n c : Nat} {ls : List (List UInt8)} {rs : List Value} (h : LS w A n c ls) (hr : Dig rs (rootB ls)) (hn : n ≤ 1000000) (hl : ∀ l ∈ ls, l.length ≤ 1000000) (ht : Tabs w) : Calls Tryd.prog 66 #[.slice A n c] w fun e w' => e = .returned (.agg rs.toArray) ∧ Below w.heap.size w w' := by
  obtain ⟨ps, hps, hls, hnc⟩ := h
  exact root_any n n c _ ps rs _ (Nat.le_refl _) (by rw [hls]; exact hr) hps hnc (by omega) (fun p hp => hl _ (by rw [← hls]; exact List.mem_map_of_mem hp)) ht
theorem nextB_no {p : Hdr} {first : Bool} {ls : List (List UInt8)} {s ep : Int} (h : nextOK p first ls s ep = false) : nextB p first ls s ep = noHdr := by unfold nextB; rw [if_neg (by simp [h])]
theorem nextB_yes {p : Hdr} {first : Bool} {ls : List (List UInt8)} {s ep : Int} (h : nextOK p first ls s ep = true) : nextB p first ls s ep = nextH p first ls s ep := by unfold nextB; rw [if_pos h]
theorem hdr_one (h : Hdr) : ∀ u ∈ hdrV h, u.oneCell' = true := by
  intro u hu
  unfold hdrV at hu
  simp only [List.mem_cons, List.mem_append, List.mem_map] at hu
  rcases hu with rfl | rfl | rfl | ⟨_, _, rfl⟩ | ⟨_, _, rfl⟩ <;> rfl
end Go.Proofs.YtphmefhnffoafaaDoor

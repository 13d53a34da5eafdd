/- The document's locks: a row of outputs with locks; its sum. -/
import Derived.Test.YtnnjjbkdjkjnpaaGreatDoorSpendNoneT21
import Derived.Test.YtnnjjbkdjkjnpaaGreatDoorSpendNoneT22
import Derived.Test.YtnnjjbkdjkjnpaaGreatDoorSpendNoneT3
import Derived.Test.YtnnjjbkdjkjnpaaGreatDoorSpendNoneT20
import Derived.Test.YtnnjjbkdjkjnpaaGreatDoorSpendNoneT19
import Derived.Test.YtnnjjbkdjkjnpaaGreatDoorSpendNoneT6
set_option linter.unusedSimpArgs false
/- The document's locks: a row of outputs with locks; its sum. -/
namespace Go.Proofs.YtnnjjbkdjkjnpaaGreatDoor
open Go.RowKit
set_option linter.unusedVariables false
def AtOKK (e : PtK × LockV) : Prop := PtOK e.1 ∧ LockOK e.2
def amtK (l : LocksL) : Int := (l.map fun e => e.2.1.2).sum
theorem amtK_nn : ∀ {l : LocksL}, (∀ e ∈ l, AtOKK e) → 0 ≤ amtK l
  | [], _ => by simp [amtK]
  | e :: l, h => by
    have h1 := amtK_nn (l := l) (fun x hx => h x (List.mem_cons_of_mem _ hx))
    have h2 := (h e (List.mem_cons_self ..)).2.1.2.1
    unfold amtK at h1 ⊢
    rw [List.map_cons, List.sum_cons]; omega
end Go.Proofs.YtnnjjbkdjkjnpaaGreatDoor
/- The document's coins: Get. -/
namespace Go.Proofs.YtnnjjbkdjkjnpaaGreatDoor
open Go.RowKit
set_option linter.unusedVariables false
theorem lookL_first {l : LocksL} {p : PtK} {k : Nat} {e : PtK × LockV} (he : l[k]? = some e) (hp : e.1 = p) (hn : ∀ x ∈ l.take k, x.1 ≠ p) : lookL l p = some e.2 := by
  have h1 : l = l.take k ++ e :: l.drop (k + 1) := by
    have hk := (List.getElem?_eq_some_iff.1 he).1
    have h2 := List.take_append_drop k l
    rw [List.drop_eq_getElem_cons hk, (List.getElem?_eq_some_iff.1 he).2] at h2
    exact h2.symm
  unfold lookL
  rw [h1, List.find?_append, List.find?_eq_none.2 (fun x hx => by simpa using hn x hx), List.find?_cons_of_pos (by simpa using hp)]
  rfl
theorem lookL_not {l : LocksL} {p : PtK} (hn : ∀ x ∈ l, x.1 ≠ p) : lookL l p = none := by
  unfold lookL
  rw [List.find?_eq_none.2 (fun e he => by simpa using hn e he)]; rfl
end Go.Proofs.YtnnjjbkdjkjnpaaGreatDoor
/- The document's locks in plain words: the list in its order, and what the program's map has to do with it. -/
namespace Go.Proofs.YtnnjjbkdjkjnpaaGreatDoor
open Go.RowKit Go.Maps Go.Sort Go.Shelf
set_option linter.unusedVariables false
def insK (p : PtK) (c : LockV) : LocksL → LocksL
  | [] => [(p, c)]
  | e :: r => if cmpP p e.1 < 0 then (p, c) :: e :: r else e :: insK p c r
def rputK (X : LocksL) (p : PtK) (c : LockV) : LocksL × Int :=
  if p.2 < 0 ∨ 16 ≤ p.2 ∨ c.1.2 = 0 ∨ 4611686018427387904 < c.1.2 then (X, 5) else if (lookL X p).isSome then (X, 24) else if 64 ≤ X.length then (X, 18) else if 4611686018427387904 - c.1.2 < amtK X then (X, 6) else (insK p c X, 0)
def cutK (X : LocksL) (p : PtK) : LocksL := X.filter (fun e => !(e.1 == p))
def SortK (X : LocksL) : Prop := X.Pairwise (fun a b => cmpP a.1 b.1 < 0)
theorem insK_perm (p : PtK) (c : LockV) : ∀ X : LocksL, (insK p c X).Perm ((p, c) :: X)
  | [] => .refl _
  | e :: r => by
    unfold insK
    by_cases h : cmpP p e.1 < 0
    · rw [if_pos h]
    · rw [if_neg h]; exact ((insK_perm p c r).cons e).trans (List.Perm.swap _ _ _)
theorem insK_sort {p : PtK} {c : LockV} : ∀ {X : LocksL}, SortK X → (∀ e ∈ X, e.1 ≠ p) → SortK (insK p c X)
  | [], _, _ => by unfold SortK insK; simp
  | e :: r, h, hn => by
    unfold SortK at h
    rw [List.pairwise_cons] at h
    unfold insK
    by_cases hp : cmpP p e.1 < 0
    · rw [if_pos hp]
      unfold SortK
      rw [List.pairwise_cons, List.pairwise_cons]
      refine ⟨fun x hx => ?_, h⟩
      rcases List.mem_cons.1 hx with rfl | hx
      · exact hp
      · exact cmpP_lt_trans hp (h.1 x hx)
    · rw [if_neg hp]
      unfold SortK
      rw [List.pairwise_cons]
      refine ⟨fun x hx => ?_, insK_sort h.2 (fun y hy => hn y (List.mem_cons_of_mem _ hy))⟩
      rcases List.mem_cons.1 ((insK_perm p c r).mem_iff.1 hx) with rfl | hx
      · have h1 := cmpP_neg p e.1
        have h2 := cmpP_zero p e.1
        have h3 : cmpP p e.1 ≠ 0 := fun h0 => hn e (List.mem_cons_self ..) (h2.1 h0).symm
        show cmpP e.1 p < 0
        omega
      · exact h.1 x hx
theorem lookL_eq {L : LocksL} (hd : (L.map (·.1)).Nodup) {e : PtK × LockV} (he : e ∈ L) : lookL L e.1 = some e.2 := by
  obtain ⟨k, hk⟩ := List.mem_iff_getElem?.1 he
  refine lookL_first hk rfl fun x hx hxe => ?_
  obtain ⟨j, hj⟩ := List.mem_iff_getElem?.1 hx
  have hkk := (List.getElem?_eq_some_iff.1 hk).1
  have hjl := (List.getElem?_eq_some_iff.1 hj).1
  rw [List.length_take] at hjl
  have hj2 : L[j]? = some x := by rw [List.getElem?_take, if_pos (by omega)] at hj; exact hj
  have h1 : (L.map (·.1))[j]? = some e.1 := by rw [List.getElem?_map, hj2]; simp [hxe]
  have h2 : (L.map (·.1))[k]? = some e.1 := by rw [List.getElem?_map, hk]; rfl
  have := (List.getElem?_inj (by rw [List.length_map]; omega) hd).1 (h1.trans h2.symm)
  omega
theorem lookL_perm {X L : LocksL} (h : X.Perm L) (hd : (L.map (·.1)).Nodup) (p : PtK) : lookL X p = lookL L p := by
  have hdX : (X.map (·.1)).Nodup := (h.map (·.1)).nodup_iff.2 hd
  by_cases hp : ∃ e ∈ L, e.1 = p
  · obtain ⟨e, he, rfl⟩ := hp
    rw [lookL_eq hd he, lookL_eq hdX (h.mem_iff.2 he)]
  · rw [lookL_not (fun x hx hxp => hp ⟨x, hx, hxp⟩), lookL_not (fun x hx hxp => hp ⟨x, h.mem_iff.1 hx, hxp⟩)]
theorem amtK_perm {X L : LocksL} (h : X.Perm L) : amtK X = amtK L := by
  unfold amtK
  have := h.map (fun e : PtK × LockV => e.2.1.2)
  exact this.foldr_eq' (f := (· + ·)) (fun x _ y _ z => by omega) 0
theorem amtK_app (X Y : LocksL) : amtK (X ++ Y) = amtK X + amtK Y := by unfold amtK; rw [List.map_append, List.sum_append_int]
theorem amtK_one (e : PtK × LockV) : amtK [e] = e.2.1.2 := by unfold amtK; simp
def IxOKK (l : LocksL) : Prop := ∀ e ∈ l, 0 ≤ e.1.2 ∧ e.1.2 ≤ 15
/-- The program's locks L (in the order of their putting, with their sum) are the document's X. -/
structure RelK (X L : LocksL) (s : Int) : Prop where
  perm : X.Perm L
  sort : SortK X
  ok : LKOK L
  sum : s = amtK L
  max : s ≤ 4611686018427387904
  len : L.length ≤ 64
  ix : IxOKK L
theorem RelK.nil : RelK [] [] 0 := ⟨.refl _, List.Pairwise.nil, ⟨by simp, by simp⟩, rfl, by omega, by simp, by unfold IxOKK; simp⟩
theorem RelK.okX {X L : LocksL} {s : Int} (h : RelK X L s) : ∀ e ∈ X, AtOKK e := fun e he => h.ok.1 e (h.perm.mem_iff.1 he)
theorem RelK.nn {X L : LocksL} {s : Int} (h : RelK X L s) : 0 ≤ s := by rw [h.sum]; exact amtK_nn (fun e he => h.ok.1 e he)
theorem RelK.amt {X L : LocksL} {s : Int} (h : RelK X L s) : amtK X = s := by rw [h.sum]; exact amtK_perm h.perm
theorem RelK.look {X L : LocksL} {s : Int} (h : RelK X L s) (p : PtK) : lookL X p = lookL L p := lookL_perm h.perm h.ok.2 p
theorem RelK.lenX {X L : LocksL} {s : Int} (h : RelK X L s) : X.length = L.length := h.perm.length_eq
theorem RelK.put {X L : LocksL} {s : Int} (h : RelK X L s) {p : PtK} {c : LockV} (hp : PtOK p) (hc : LockOK c) (h0 : putQ L s p c.1 = 0) : RelK (rputK X p c).1 (L ++ [(p, c)]) (addE s c.1.2).1 := by
  have h1 := h.nn; have h2 := h.max; have h3 := hc.1.2.1
  have hk := h.look p; have hlx := h.lenX; have ham := h.amt
  unfold putQ at h0
  split at h0
  · omega
  · rename_i hr
    split at h0
    · omega
    · rename_i hl
      have hl2 : (lookL L p).isSome = false := by simpa using hl
      split at h0
      · omega
      · rename_i h64
        unfold addE at h0 ⊢
        split at h0
        · rename_i ha
          rw [if_pos ha]
          have hX : (rputK X p c).1 = insK p c X := by
            unfold rputK
            rw [if_neg hr, hk, if_neg hl, hlx, if_neg h64, ham, if_neg (by omega)]
          rw [hX]
          have hno := lookL_none hl2
          have hpl : (insK p c X).Perm (L ++ [(p, c)]) := (insK_perm p c X).trans ((h.perm.cons (p, c)).trans (List.perm_append_comm (l₁ := [(p, c)]) (l₂ := L)))
          refine ⟨hpl, insK_sort h.sort (fun e he => hno e (h.perm.mem_iff.1 he)), ⟨fun e he => ?_, ?_⟩, ?_, by omega, ?_, fun e he => ?_⟩
          · rcases List.mem_append.1 he with he | he
            · exact h.ok.1 e he
            · rw [List.mem_singleton] at he; subst he; exact ⟨hp, hc⟩
          · rw [List.map_append, List.nodup_append]
            refine ⟨h.ok.2, by simp, fun a ha b hb hab => ?_⟩
            obtain ⟨e, he, rfl⟩ := List.mem_map.1 ha
            simp at hb
            exact hno e he (hab.trans hb)
          · rw [amtK_app, amtK_one, h.sum]
          · rw [List.length_append]; simp; omega
          · rcases List.mem_append.1 he with he | he
            · exact h.ix e he
            · rw [List.mem_singleton] at he; subst he; exact ⟨by show 0 ≤ p.2; omega, by show p.2 ≤ 15; omega⟩
        · simp at h0
theorem dropL_eq {L : LocksL} {p : PtK} (hd : (L.map (·.1)).Nodup) : dropL L p = cutK L p := by
  induction L with
  | nil => rfl
  | cons e r ih =>
    rw [List.map_cons, List.nodup_cons] at hd
    unfold dropL cutK at *
    by_cases h : e.1 = p
    · rw [List.eraseP_cons_of_pos (by simpa using h), List.filter_cons_of_neg (by simpa using h)]
      exact (List.filter_eq_self.2 (fun x hx => by
        have : x.1 ≠ p := fun hxp => hd.1 (List.mem_map.2 ⟨x, hx, by rw [hxp, h]⟩)
        simpa using this)).symm
    · rw [List.eraseP_cons_of_neg (by simpa using h), List.filter_cons_of_pos (by simpa using h), ih hd.2]
theorem amtK_cut {L : LocksL} {p : PtK} (hd : (L.map (·.1)).Nodup) : amtK (cutK L p) = amtK L - ((lookL L p).getD noLock).1.2 := by
  induction L with
  | nil => rfl
  | cons e r ih =>
    rw [List.map_cons, List.nodup_cons] at hd
    by_cases h : e.1 = p
    · have h1 : cutK (e :: r) p = r := by
        unfold cutK
        rw [List.filter_cons_of_neg (by simpa using h)]
        exact List.filter_eq_self.2 (fun x hx => by
          have : x.1 ≠ p := fun hxp => hd.1 (List.mem_map.2 ⟨x, hx, by rw [hxp, h]⟩)
          simpa using this)
      have h2 : lookL (e :: r) p = some e.2 := by unfold lookL; rw [List.find?_cons_of_pos (by simpa using h)]; rfl
      rw [h1, h2]
      unfold amtK
      rw [List.map_cons, List.sum_cons]
      simp only [Option.getD_some]
      omega
    · have h1 : cutK (e :: r) p = e :: cutK r p := by unfold cutK; rw [List.filter_cons_of_pos (by simpa using h)]
      have h2 : lookL (e :: r) p = lookL r p := by unfold lookL; rw [List.find?_cons_of_neg (by simpa using h)]
      have h3 := ih hd.2
      rw [h1, h2]
      unfold amtK at h3 ⊢
      rw [List.map_cons, List.sum_cons, List.map_cons, List.sum_cons, h3]
      omega
theorem RelK.amtp {X L : LocksL} {s : Int} (h : RelK X L s) (p : PtK) : 0 ≤ ((lookL L p).getD noLock).1.2 ∧ ((lookL L p).getD noLock).1.2 ≤ s := by
  have h1 := amtK_cut (p := p) h.ok.2
  have h2 := amtK_nn (l := cutK L p) (fun e he => h.ok.1 e (List.mem_filter.1 he).1)
  have h3 := h.sum
  refine ⟨?_, by omega⟩
  cases hl : lookL L p with
  | none => simp [noLock, noCoin]
  | some c =>
    obtain ⟨e, he, rfl⟩ := Option.map_eq_some_iff.1 (show (L.find? (fun e => e.1 == p)).map (·.2) = some c from hl)
    exact (h.ok.1 e (List.mem_of_find?_eq_some he)).2.1.2.1
theorem RelK.take {X L : LocksL} {s : Int} (h : RelK X L s) (p : PtK) : RelK (cutK X p) (dropL L p) (s - ((lookL L p).getD noLock).1.2) := by
  have h1 := amtK_cut (p := p) h.ok.2
  have h2 := h.amtp p
  rw [dropL_eq h.ok.2]
  refine ⟨h.perm.filter _, List.Pairwise.filter _ h.sort, ⟨fun e he => h.ok.1 e (List.mem_filter.1 he).1, ?_⟩, ?_, ?_, ?_, fun e he => h.ix e (List.mem_filter.1 he).1⟩
  · exact List.Nodup.sublist (List.Sublist.map _ List.filter_sublist) h.ok.2
  · rw [h1, h.sum]
  · have := h.max; omega
  · exact Nat.le_trans (List.length_filter_le _ _) h.len
theorem RelK.all {X L : LocksL} {s : Int} (h : RelK X L s) {ks ss : List PtS} (hp : (ks.map (·.1)).Perm (L.map (·.1))) (hs : ks = sortP ss) : ks.map (·.1) = X.map (·.1) := by
  have tr : ∀ x y z : PtS, (!(ltOf cfPt) y x) = true → (!(ltOf cfPt) z y) = true → (!(ltOf cfPt) z x) = true := fun x y z h1 h2 => by
    simp only [Bool.not_eq_true'] at *
    exact swo_pt.ntrans z y x h2 h1
  have tto : ∀ x y : PtS, ((!(ltOf cfPt) y x) || (!(ltOf cfPt) x y)) = true := fun x y => by
    by_cases hc : ltOf cfPt y x = true
    · have : ltOf cfPt x y = false := by
        cases hh : ltOf cfPt x y with
        | false => rfl
        | true => have := swo_pt.trans y x y hc hh; rw [swo_pt.irrefl] at this; cases this
      simp [hc, this]
    · simp [Bool.not_eq_true _ ▸ hc]
  have hk : (ks.map (·.1)).Pairwise (fun a b => cmpP a b ≤ 0) := by
    rw [List.pairwise_map, hs]
    refine (List.pairwise_mergeSort tr tto ss).imp fun {a b} hab => ?_
    simp only [Bool.not_eq_true'] at hab
    rw [nlt_pt] at hab
    exact hab
  have hX : (X.map (·.1)).Pairwise (fun a b => cmpP a b ≤ 0) := by
    rw [List.pairwise_map]
    exact h.sort.imp fun {a b} hab => by omega
  refine List.Perm.eq_of_pairwise (le := fun a b => cmpP a b ≤ 0) (fun a b _ _ h1 h2 => ?_) hk hX (hp.trans (h.perm.map _).symm)
  have h3 := cmpP_neg a b
  exact (cmpP_zero a b).1 (by omega)
end Go.Proofs.YtnnjjbkdjkjnpaaGreatDoor
/- Outputs and coins as cells: small facts. -/
namespace Go.Proofs.YtnnjjbkdjkjnpaaGreatDoor
open Go.RowKit
set_option linter.unusedVariables false
theorem ptV_one (p : PtK) : ∀ u ∈ ptV p, u.oneCell' = true := fun u h => by
  unfold ptV at h
  rcases List.mem_append.1 h with h | h
  · exact mapB_one _ u h
  · rw [List.mem_singleton] at h; subst h; rfl
theorem ptV_cl {p : PtK} (h : PtOK p) : Cl 33 (ptV p) := ⟨ptV_length h.1, ptV_one p⟩
theorem coinV_cl {c : CoinV} (h : CoinOK c) : Cl 33 (coinV c) := ⟨coinV_length h, coinV_one c⟩
theorem zero_point : (Tryz.prog.info? 69).map (·.zero) = some (some (.agg (ptV (pt 0)).toArray)) := by kernel_rfl
theorem len_point : (ptV (pt 0)).length = 33 := by simp [ptV, pt]
theorem len_coin : (coinV noCoin).length = 33 := coinV_length noCoin_ok
end Go.Proofs.YtnnjjbkdjkjnpaaGreatDoor

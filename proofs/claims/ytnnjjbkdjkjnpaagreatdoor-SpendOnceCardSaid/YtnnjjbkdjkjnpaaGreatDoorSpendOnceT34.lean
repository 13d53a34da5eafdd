/- The given card SpendOnceCardSaid, out of the walk spendOnce_walk: for every input the law returns true, and each argument reads as it did; the tables of package sha are tied to the program's text. No condition. -/
import Derived.Test.YtnnjjbkdjkjnpaaGreatDoorSpendOnceT33
import Derived.Test.YtnnjjbkdjkjnpaaGreatDoorSpendOnceT6
import Derived.Test.YtnnjjbkdjkjnpaaGreatDoorSpendOnceT31
import Derived.Deep.CutRange
import Derived.Test.YtnnjjbkdjkjnpaaGreatDoorSpendOnceT2
import Derived.ShutString
import Derived.ChangeOld
import Derived.Below
set_option linter.unusedSimpArgs false
/- What was paid is not paid again, what was minted is not minted again: plain. -/
namespace Go.Proofs.YtnnjjbkdjkjnpaaGreatDoor
open Go.RowKit Go.Maps Go.Sort Go.Shelf
set_option linter.unusedVariables false
theorem w64_eq (a : Int) : w64 a = a % 18446744073709551616 := by unfold w64; rw [IntKind.wrap_u64]
theorem lookC_cut (X : CoinsL) (p q : PtK) : lookC (cutC X q) p = if p = q then none else lookC X p := by
  by_cases h : p = q
  · rw [if_pos h, h]; exact lookC_cut_eq X q
  · rw [if_neg h]; exact lookC_cut_ne h
theorem lookC_cuts_none : ∀ (ps : List PtK) (X : CoinsL) (p : PtK), lookC X p = none → lookC (cutsC X ps) p = none
  | [], X, p, h => h
  | q :: r, X, p, h => lookC_cuts_none r _ p (by rw [lookC_cut]; split; rfl; exact h)
theorem lookC_cuts : ∀ (ps : List PtK) (X : CoinsL) (p : PtK), p ∈ ps → lookC (cutsC X ps) p = none
  | q :: r, X, p, h => by
    rcases List.mem_cons.1 h with h | h
    · exact lookC_cuts_none r _ p (by rw [h]; exact lookC_cut_eq X q)
    · exact lookC_cuts r _ p h
def amts (ins : List Inp) (ks : List Nat) : Int := (ks.filterMap fun k => (ins[k]?).map Inp.amount).sum
theorem inputE_zero {X : CoinsL} {Y : LocksL} {i : Inp} (h : inputE X Y i = 0) : ∃ c, lookC X i.pt = some c ∧ c.2 = i.amount ∧ lookL Y i.pt = none := by
  unfold inputE at h
  split at h
  · omega
  · rename_i hl
    cases hc : lookC X i.pt with
    | none => rw [hc] at h; simp at h
    | some c =>
      rw [hc] at h
      simp only at h
      split at h
      · omega
      · split at h
        · omega
        · rename_i h2
          exact ⟨c, rfl, by omega, by simpa using hl⟩
theorem sums_sum {X : CoinsL} {Y : LocksL} {ins : List Inp} : ∀ (ks : List Nat) (s sm : Int), (∀ k ∈ ks, k < ins.length) → sumsR X Y ins ks s = (sm, 0) → w64 sm = w64 (s + amts ins ks) ∧ ∀ k ∈ ks, ∀ i, ins[k]? = some i → ∃ c, lookC X i.pt = some c ∧ c.2 = i.amount
  | [], s, sm, _, h => by
    have : s = sm := by injection h
    rw [this]; simp [amts]
  | k :: r, s, sm, hl, h => by
    have hk := hl k (List.mem_cons_self ..)
    have hi : ins[k]? = some ins[k] := List.getElem?_eq_getElem hk
    unfold sumsR at h
    simp only [hi] at h
    split at h
    · rename_i h0; injection h with _ h2; exact absurd h2 h0
    · rename_i h0
      have h0 : inputE X Y ins[k] = 0 := by omega
      obtain ⟨h1, h2⟩ := sums_sum r _ sm (fun x hx => hl x (List.mem_cons_of_mem _ hx)) h
      refine ⟨?_, fun x hx i hxi => ?_⟩
      · have e : amts ins (k :: r) = ins[k].amount + amts ins r := by unfold amts; rw [List.filterMap_cons, hi]; simp
        rw [h1, e, w64_eq, w64_eq, w64_eq]; omega
      · rcases List.mem_cons.1 hx with rfl | hx
        · rw [hi] at hxi
          obtain rfl := Option.some.inj hxi
          obtain ⟨c, c1, c2, _⟩ := inputE_zero h0
          exact ⟨c, c1, c2⟩
        · exact h2 x hx i hxi
theorem amt_cuts {ins : List Inp} (hd : (ins.map Inp.pt).Nodup) : ∀ (ks : List Nat) (X : CoinsL), ks.Nodup → (∀ k ∈ ks, k < ins.length) → (X.map (·.1)).Nodup → (∀ k ∈ ks, ∀ i, ins[k]? = some i → ∃ c, lookC X i.pt = some c ∧ c.2 = i.amount) → amtC (cutsC X (ptsOf ins ks)) = amtC X - amts ins ks
  | [], X, _, _, _, _ => by simp [ptsOf, cutsC, amts]
  | k :: r, X, hn, hl, hx, h => by
    have hk := hl k (List.mem_cons_self ..)
    have hi : ins[k]? = some ins[k] := List.getElem?_eq_getElem hk
    rw [List.nodup_cons] at hn
    obtain ⟨c, c1, c2⟩ := h k (List.mem_cons_self ..) _ hi
    have e1 : ptsOf ins (k :: r) = ins[k].pt :: ptsOf ins r := by unfold ptsOf; rw [List.filterMap_cons, hi]; rfl
    have e2 : amts ins (k :: r) = ins[k].amount + amts ins r := by unfold amts; rw [List.filterMap_cons, hi]; simp
    rw [e1, e2]
    show amtC (cutsC (cutC X ins[k].pt) (ptsOf ins r)) = _
    rw [amt_cuts hd r (cutC X ins[k].pt) hn.2 (fun x hx => hl x (List.mem_cons_of_mem _ hx)) (hx.sublist ((List.filter_sublist).map _)) (fun x hx2 i hxi => ?_)]
    · rw [amtC_cut hx, c1]; simp only [Option.getD_some]; omega
    · obtain ⟨c', d1, d2⟩ := h x (List.mem_cons_of_mem _ hx2) i hxi
      refine ⟨c', ?_, d2⟩
      rw [lookC_cut_ne (fun e => ?_)]
      · exact d1
      · have h1 : (ins.map Inp.pt)[x]? = some i.pt := by rw [List.getElem?_map, hxi]; rfl
        have h2 : (ins.map Inp.pt)[k]? = some i.pt := by rw [List.getElem?_map, hi, e]; rfl
        have := (List.getElem?_inj (by rw [List.length_map]; exact hk) hd).1 (h2.trans h1.symm)
        exact hn.1 (this ▸ hx2)
theorem twice_nd {t : Txn} (h : checkT t = 0) : (t.ins.map Inp.pt).Nodup := by
  unfold checkT at h
  split at h
  · omega
  · split at h
    · omega
    · rename_i h2
      unfold twiceT at h2
      simpa using h2
theorem inputs_ok {X : CoinsL} {Y : LocksL} {t : Txn} {n me : Int} (h : (inputsR X Y t n me).2 = 0) : checkT t = 0 ∧ hereI t n me ≠ [] ∧ sumsR X Y t.ins (hereI t n me) 0 = ((inputsR X Y t n me).1, 0) := by
  by_cases h1 : checkT t = 0
  · by_cases h2 : hereI t n me = []
    · exfalso; unfold inputsR at h; rw [if_neg (by omega), if_pos h2] at h; simp at h
    · refine ⟨h1, h2, ?_⟩
      have e : inputsR X Y t n me = sumsR X Y t.ins (hereI t n me) 0 := by unfold inputsR; rw [if_neg (by omega), if_neg h2]
      rw [e] at h ⊢
      exact Prod.ext rfl h
  · exfalso; unfold inputsR at h; rw [if_pos h1] at h; exact h1 h
theorem pay_again {X : CoinsL} {t : Txn} {n me : Int} (h : (inputsR X [] t n me).2 = 0) : (inputsR (payX X [] t n me) [] t n me).2 = 13 := by
  obtain ⟨h1, h2, h3⟩ := inputs_ok h
  have e : payX X [] t n me = cutsC X (ptsOf t.ins (hereI t n me)) := by unfold payX; rw [if_neg (fun hh => hh h)]
  rw [e]
  unfold inputsR
  rw [if_neg (by omega), if_neg h2]
  cases hh : hereI t n me with
  | nil => exact absurd hh h2
  | cons k r =>
    have hk : k < t.ins.length := hereI_lt (show k ∈ hereI t n me by rw [hh]; simp)
    have hi : t.ins[k]? = some t.ins[k] := List.getElem?_eq_getElem hk
    have e1 : ptsOf t.ins (k :: r) = t.ins[k].pt :: ptsOf t.ins r := by unfold ptsOf; rw [List.filterMap_cons, hi]; rfl
    have hl := lookC_cuts (ptsOf t.ins (k :: r)) X t.ins[k].pt (by rw [e1]; simp)
    have he : inputE (cutsC X (ptsOf t.ins (k :: r))) [] t.ins[k] = 13 := by
      unfold inputE
      rw [hl]; simp [lookL]
    simp only [sumsR, hi, he]
    simp
theorem pay_sum {X L : CoinsL} {s : Int} {t : Txn} {n me : Int} (hr : RelC X L s) (h : (inputsR X [] t n me).2 = 0) : amtC (payX X [] t n me) = amtC X - amts t.ins (hereI t n me) ∧ w64 (inputsR X [] t n me).1 = w64 (amts t.ins (hereI t n me)) := by
  obtain ⟨h1, h2, h3⟩ := inputs_ok h
  have e : payX X [] t n me = cutsC X (ptsOf t.ins (hereI t n me)) := by unfold payX; rw [if_neg (fun hh => hh h)]
  obtain ⟨h4, h5⟩ := sums_sum _ _ _ (fun k hk => hereI_lt hk) h3
  refine ⟨?_, by rw [h4, Int.zero_add]⟩
  rw [e]
  exact amt_cuts (twice_nd h1) _ X (placesI_nd _ _) (fun k hk => hereI_lt hk) ((hr.perm.map (·.1)).nodup_iff.2 hr.ok.2) h5
theorem pay_was {X L X1 L1 : CoinsL} {s s1 : Int} {t : Txn} {n me : Int} (hr : RelC X L s) (h : (inputsR X [] t n me).2 = 0) (hX : X1 = payX X [] t n me) (hr1 : RelC X1 L1 s1) : s1 = IntKind.u64.wrap (amtC X - (inputsR X [] t n me).1) := by
  obtain ⟨h1, h2⟩ := pay_sum hr h
  have e : s1 = amtC X1 := hr1.amt.symm
  have m1 := hr1.max; have m2 := hr1.nn
  rw [hX] at e
  rw [h1] at e
  show _ = w64 _
  rw [w64_eq] at h2 ⊢
  rw [w64_eq] at h2
  omega
/-! ### Mint -/
theorem rput_ok {X : CoinsL} {p : PtK} {c : CoinV} (h : (rputC X p c).2 = 0) : (rputC X p c).1 = insC p c X ∧ ¬ (p.2 < 0 ∨ 16 ≤ p.2 ∨ c.2 = 0 ∨ 4611686018427387904 < c.2) := by
  unfold rputC at *
  by_cases h1 : p.2 < 0 ∨ 16 ≤ p.2 ∨ c.2 = 0 ∨ 4611686018427387904 < c.2
  · rw [if_pos h1] at h; simp at h
  · rw [if_neg h1] at h ⊢
    by_cases h2 : (lookC X p).isSome = true
    · rw [if_pos h2] at h; simp at h
    · rw [if_neg h2] at h ⊢
      by_cases h3 : 256 ≤ X.length
      · rw [if_pos h3] at h; simp at h
      · rw [if_neg h3] at h ⊢
        by_cases h4 : 4611686018427387904 - c.2 < amtC X
        · rw [if_pos h4] at h; simp at h
        · rw [if_neg h4]; exact ⟨rfl, h1⟩
theorem look_key {X : CoinsL} {p : PtK} : (lookC X p).isSome = true ↔ ∃ e ∈ X, e.1 = p := by
  unfold lookC
  rw [Option.isSome_map, List.find?_isSome]
  constructor
  · rintro ⟨x, hx, h⟩; exact ⟨x, hx, by simpa using h⟩
  · rintro ⟨x, hx, h⟩; exact ⟨x, hx, by simpa using h⟩
def amtsO (outs : List Outp) (ks : List Nat) : Int := (ks.filterMap fun k => (outs[k]?).map Outp.amount).sum
theorem mints_sum {id : List UInt8} {outs : List Outp} : ∀ (ks : List Nat) (X X2 : CoinsL) (s sm : Int), (∀ k ∈ ks, k < outs.length) → mintsR id outs ks X s = (X2, sm, 0) →
    amtC X2 = amtC X + amtsO outs ks ∧ w64 sm = w64 (s + amtsO outs ks) ∧ (∀ e ∈ X, e ∈ X2) ∧ ∀ k ∈ ks, ∀ o, outs[k]? = some o → (lookC X2 (id, (k : Int))).isSome = true ∧ ¬ ((k : Int) < 0 ∨ 16 ≤ (k : Int) ∨ o.amount = 0 ∨ 4611686018427387904 < o.amount)
  | [], X, X2, s, sm, _, h => by
    unfold mintsR at h
    injection h with h1 h2
    injection h2 with h2 _
    subst h1; subst h2
    simp [amtsO]
  | k :: r, X, X2, s, sm, hl, h => by
    have hk := hl k (List.mem_cons_self ..)
    have hi : outs[k]? = some outs[k] := List.getElem?_eq_getElem hk
    unfold mintsR at h
    simp only [hi] at h
    split at h
    · rename_i h0; injection h with _ h2; injection h2 with _ h3; exact absurd h3 h0
    · rename_i h0
      have h0 : (rputC X (id, (k : Int)) (outs[k].owner, outs[k].amount)).2 = 0 := by omega
      obtain ⟨p1, p2⟩ := rput_ok h0
      rw [p1] at h
      obtain ⟨h1, h2, h3, h4⟩ := mints_sum r _ X2 _ sm (fun x hx => hl x (List.mem_cons_of_mem _ hx)) h
      have e : amtsO outs (k :: r) = outs[k].amount + amtsO outs r := by unfold amtsO; rw [List.filterMap_cons, hi]; simp
      have ei : amtC (insC (id, (k : Int)) (outs[k].owner, outs[k].amount) X) = outs[k].amount + amtC X := by
        rw [amtC_perm (insC_perm _ _ X), show ((id, (k : Int)), (outs[k].owner, outs[k].amount)) :: X = [((id, (k : Int)), (outs[k].owner, outs[k].amount))] ++ X from rfl, amtC_app, amtC_one]
      have hin : ∀ x ∈ X, x ∈ insC (id, (k : Int)) (outs[k].owner, outs[k].amount) X := fun x hx => (insC_perm _ _ X).mem_iff.2 (List.mem_cons_of_mem _ hx)
      refine ⟨by rw [h1, ei, e]; omega, by rw [h2, e, w64_eq, w64_eq, w64_eq]; omega, fun x hx => h3 x (hin x hx), fun x hx o hxo => ?_⟩
      rcases List.mem_cons.1 hx with rfl | hx
      · rw [hi] at hxo
        obtain rfl := Option.some.inj hxo
        exact ⟨look_key.2 ⟨_, h3 _ ((insC_perm _ _ X).mem_iff.2 (List.mem_cons_self ..)), rfl⟩, p2⟩
      · exact h4 x hx o hxo
theorem mint_ok {X : CoinsL} {t : Txn} {n me : Int} (h : (mintR X t n me).2.2 = 0) : checkT t = 0 ∧ hereO t n me ≠ [] ∧ mintsR (tidB t) t.outs (hereO t n me) X 0 = ((mintR X t n me).1, (mintR X t n me).2.1, 0) := by
  by_cases h1 : checkT t = 0
  · by_cases h2 : hereO t n me = []
    · exfalso; unfold mintR at h; rw [if_neg (by omega), if_pos h2] at h; simp at h
    · refine ⟨h1, h2, ?_⟩
      by_cases h3 : (mintsR (tidB t) t.outs (hereO t n me) X 0).2.2 = 0
      · have e : mintR X t n me = mintsR (tidB t) t.outs (hereO t n me) X 0 := by unfold mintR; rw [if_neg (by omega), if_neg h2, if_neg (fun hh => hh h3)]
        rw [e]
        exact Prod.ext rfl (Prod.ext rfl h3)
      · exfalso; unfold mintR at h; rw [if_neg (by omega), if_neg h2, if_pos h3] at h; exact h3 h
  · exfalso; unfold mintR at h; rw [if_pos h1] at h; exact h1 h
theorem mint_again {X : CoinsL} {t : Txn} {n me : Int} (h : (mintR X t n me).2.2 = 0) : (mintR (mintR X t n me).1 t n me).2.2 = 24 ∧ (mintR (mintR X t n me).1 t n me).1 = (mintR X t n me).1 := by
  obtain ⟨h1, h2, h3⟩ := mint_ok h
  obtain ⟨-, -, -, h4⟩ := mints_sum _ _ _ _ _ (fun k hk => hereO_lt hk) h3
  obtain ⟨X2, hX2⟩ : ∃ q, q = (mintR X t n me).1 := ⟨_, rfl⟩
  rw [← hX2] at h4 ⊢
  have e24 : (mintsR (tidB t) t.outs (hereO t n me) X2 0).2.2 = 24 := by
    cases hh : hereO t n me with
    | nil => exact absurd hh h2
    | cons k r =>
      have hk : k < t.outs.length := hereO_lt (show k ∈ hereO t n me by rw [hh]; simp)
      have hi : t.outs[k]? = some t.outs[k] := List.getElem?_eq_getElem hk
      obtain ⟨g1, g2⟩ := h4 k (by rw [hh]; simp) _ hi
      have hc : (rputC X2 (tidB t, (k : Int)) (t.outs[k].owner, t.outs[k].amount)).2 = 24 := by
        unfold rputC
        rw [if_neg g2, if_pos g1]
      simp only [mintsR, hi, hc]
      simp
  have e : mintR X2 t n me = (X2, 0, 24) := by
    unfold mintR
    rw [if_neg (by omega), if_neg h2, if_pos (by rw [e24]; omega), e24]
  rw [e]; exact ⟨rfl, rfl⟩
theorem mint_same {X : CoinsL} {t : Txn} {n me : Int} (h : (mintR X t n me).2.2 ≠ 0) : (mintR X t n me).1 = X := by
  unfold mintR at *
  split
  · rfl
  · rename_i h1
    rw [if_neg h1] at h
    split
    · rfl
    · rename_i h2
      rw [if_neg h2] at h
      split
      · rfl
      · rename_i h3
        rw [if_neg h3] at h
        exact absurd h h3
theorem pay_same {X : CoinsL} {Y : LocksL} {t : Txn} {n me : Int} (h : (inputsR X Y t n me).2 ≠ 0) : payX X Y t n me = X := by unfold payX; rw [if_pos h]
theorem mint_was {X X2 L L2 : CoinsL} {s s2 : Int} {t : Txn} {n me : Int} (hr : RelC X L s) (h : (mintR X t n me).2.2 = 0) (hX : X2 = (mintR X t n me).1) (hr2 : RelC X2 L2 s2) : s2 = IntKind.u64.wrap (s + (mintR X t n me).2.1) := by
  obtain ⟨h1, h2, h3⟩ := mint_ok h
  obtain ⟨g1, g2, -, -⟩ := mints_sum _ _ _ _ _ (fun k hk => hereO_lt hk) h3
  have e : s2 = amtC X2 := hr2.amt.symm
  have e0 : s = amtC X := hr.amt.symm
  have m1 := hr2.max; have m2 := hr2.nn
  rw [hX] at e
  rw [g1] at e
  show _ = w64 _
  rw [Int.zero_add] at g2
  rw [w64_eq] at g2 ⊢
  rw [w64_eq] at g2
  omega
end Go.Proofs.YtnnjjbkdjkjnpaaGreatDoor
/- Arguments opened: digests, lists of digests. -/
namespace Go.Proofs.YtnnjjbkdjkjnpaaGreatDoor
open Go.RowKit Go.ChangeShapes Go.WideShapes
set_option linter.unusedVariables false
set_option maxRecDepth 100000
section
variable {H : Type} {enc : TypeId × Value → H} {w : World} {r : Reach} {b0 base : Nat} {spare : Nat → Bool} {held : Bool}
end
end Go.Proofs.YtnnjjbkdjkjnpaaGreatDoor
/- The walk of seisinlaw22.SpendNone. -/
namespace Go.Proofs.YtnnjjbkdjkjnpaaGreatDoor
open Go.RowKit Go.Shelf
set_option linter.unusedVariables false
theorem great_tx {A : Option Addr} {n c : Nat} {A2 : Option Addr} {n2 c2 : Nat} {l : List (Value × Inp)} {os : List Outp} {fee ex : Int} {w : World} (hi : InsAt w A n c l) (ho : OutsAt w A2 n2 c2 os) (hf : U64 fee) (hx : I64 ex) (hg : greatT ⟨l.map Prod.snd, os, fee, ex⟩ = false) : TxAt w (txV A n c A2 n2 c2 fee ex) ⟨l.map Prod.snd, os, fee, ex⟩ := by
  unfold greatT at hg
  simp only [Bool.or_eq_false_iff, decide_eq_false_iff_not] at hg
  have h1 := hi.2.2.1; have h2 := ho.2.2.1
  have h3 : (l.map Prod.snd).length = l.length := List.length_map ..
  refine ⟨A, n, c, A2, n2, c2, fee, ex, l, os, rfl, rfl, hi, ho, by have := hg.1.1; simp only [h3] at this; omega, by have := hg.1.2; omega, hf, hx⟩
end Go.Proofs.YtnnjjbkdjkjnpaaGreatDoor
/- The walk of seisinlaw22.SpendOnce. -/
namespace Go.Proofs.YtnnjjbkdjkjnpaaGreatDoor
open Go.RowKit Go.Shelf
set_option linter.unusedVariables false
def CoinNow (w0 wr : World) (g b g5 : Nat) (tv : List Value) (X : CoinsL) : Prop := ∃ b' L s, CoinsAt wr g b' L s ∧ RelC X L s ∧ At wr g5 27 4 tv ∧ Below w0.heap.size w0 wr ∧ (b' = b ∨ w0.heap.size ≤ b')
set_option maxRecDepth 100000 in
set_option maxHeartbeats 16000000 in
theorem spendOnce_walk (A : Option Addr) (n c : Nat) (l : List HeldV) (A1 : Option Addr) (n1 c1 : Nat) (A2 : Option Addr) (n2 c2 : Nat) (li : List (Value × Inp)) (os : List Outp) (fee ex : Int) (z me : Int) (w : World) (hh : HeldsAt w A n l) (hn : n ≤ 9223372036854775807) (hi : InsAt w A1 n1 c1 li) (ho : OutsAt w A2 n2 c2 os) (hf : U64 fee) (hx : I64 ex) (hm : c1 ≤ maxLen) (hm2 : c2 ≤ maxLen) (wz : (Lit.int .u8 z).wf = true) (wm : (Lit.int .i64 me).wf = true) (ht : Tabs w) :
    Calls Tryz.prog 3 #[.slice A n c, .agg (txV A1 n1 c1 A2 n2 c2 fee ex).toArray, .int .u8 z, .int .i64 me] w fun e w' => e = .returned (.bool true) ∧ Below w.heap.size w w' := by
  have HGR := Lib.hid (fun w' (k : Grow w w') => rtgreat_any w' (hi.grow k) ho.2.2.1 (A := A1) (c := c1) (A2 := A2) (c2 := c2) (fee := fee) (ex := ex) (by have := hi.2.2.2; unfold maxLen at hm; omega) (by have := ho.2.2.2; unfold maxLen at hm2; omega))
  have HAW := Lib.hid (fun w' (k : Grow w w') => awake22_any w' (ht.grow k))
  have HTX := Lib.hid (fun hg => great_tx hi ho hf hx hg)
  have HTT := Lib.hid (fun w' (k : Grow w w') => ht.grow k)
  have HTC := Lib.hid (txV_cl (A := A1) (n := n1) (c := c1) (A2 := A2) (n2 := n2) (c2 := c2) (fee := fee) (ex := ex))
  have HH := Lib.hid hh
  obtain ⟨t, htt⟩ : ∃ t : Txn, t = ⟨li.map Prod.snd, os, fee, ex⟩ := ⟨_, rfl⟩
  rw [← htt] at HGR HTX
  obtain ⟨tv, htv⟩ : ∃ q, q = txV A1 n1 c1 A2 n2 c2 fee ex := ⟨_, rfl⟩
  rw [← htv] at HGR HTX HTC ⊢
  obtain ⟨gt, hgt⟩ : ∃ q, q = greatT t := ⟨_, rfl⟩
  rw [← hgt] at HGR HTX
  have b1 := bounds_u8 wz
  have e1 : z.tmod 64 = z % 64 := Int.tmod_eq_emod_of_nonneg b1.1
  obtain ⟨md, hmd⟩ : ∃ q, q = z % 64 := ⟨_, rfl⟩
  have hmd1 : 0 ≤ md ∧ md ≤ 63 := by omega
  rw [← hmd] at e1
  obtain ⟨w_, hw⟩ : ∃ x, x = w := ⟨_, rfl⟩
  have HB := Lib.hid (show Below w.heap.size w w_ by rw [hw]; exact Below.refl _ _)
  suffices H : Calls Tryz.prog 3 #[.slice A n c, .agg tv.toArray, .int .u8 z, .int .i64 me] w_ (fun e w' => e = .returned (.bool true) ∧ Below w.heap.size w w') by rw [hw] at H; exact H
  clear hw hh hi ho hf hx hm hm2 wz wm ht htt htv hgt hmd
  go_enter Tryz.func3, Tryz.ntmps3
  go_wp2_with (first | (with_reducible refine wpl_box (o := ⟨some 5, _, _, _, _, _⟩) rfl rfl rfl ?_))
  intro w2_ hb2_ hb_ hsz2_
  have HX_ := Lib.hid (at_mk hb2_ HTC.out.len)
  clear hb2_ hsz2_
  have HG_ := Lib.hid HB.out.size
  have HB_ := Lib.hid (HB.out.grow' hb_)
  clear HB
  have HB := HB_
  clear HB_
  generalize hg_ : w_.heap.size = g5 at HX_ HG_ ⊢
  clear hg_
  have HX_g := HG_
  clear HG_
  have HX := HX_
  clear hb_ HX_
  try clear w_
  rename World => w_
  by_cases h30 : 30 < n
  · have h31 : (30 : Int) < (n : Int) := by omega
    go_wp2_with fail
    refine (HAW.out _ HB.out).mono ?_
    rintro e w_ ⟨rfl, hb_⟩
    have HB_ := Lib.hid (HB.out.grow' hb_)
    clear HB
    have HB := HB_
    clear HB_
    have HX_ := Lib.hid (HX.out.grow hb_)
    clear HX
    have HX := HX_
    clear HX_
    clear hb_
    go_wp2_with fail
    go_ret
    exact ⟨rfl, HB.out⟩
  have h31 : ¬ ((30 : Int) < (n : Int)) := by omega
  go_wp2_with (first | (with_reducible refine wpl_loadb (o := ⟨some 23, _, _, _, _, _⟩) rfl rfl row_tx HX.out.blk rfl HX.out.len ?_) | (with_reducible refine wpl_loadw (o := ⟨some 23, _, _, _, _, _⟩) (by first | rfl | (go_simp; done) | fail) rfl row_tx HX.out.blk rfl HX.out.len ?_))
  refine (HGR.out _ HB.out).mono ?_
  rintro e w_ ⟨rfl, hb_⟩
  have HB_ := Lib.hid (HB.out.grow' hb_)
  clear HB
  have HB := HB_
  clear HB_
  have HX_ := Lib.hid (HX.out.grow hb_)
  clear HX
  have HX := HX_
  clear HX_
  clear hb_
  cases gt with
  | true =>
    go_wp2_with fail
    refine (HAW.out _ HB.out).mono ?_
    rintro e w_ ⟨rfl, hb_⟩
    have HB_ := Lib.hid (HB.out.grow' hb_)
    clear HB
    have HB := HB_
    clear HB_
    have HX_ := Lib.hid (HX.out.grow hb_)
    clear HX
    have HX := HX_
    clear HX_
    clear hb_
    go_wp2_with fail
    go_ret
    exact ⟨rfl, HB.out⟩
  | false =>
    have HT := Lib.hid (HTX.out rfl)
    clear HTX HGR
    have HGC0 := Lib.hid (sttC_good l HH.out.2.2 [] GoodC.nil)
    have HGC := Lib.hid (show GoodC (sttC l) from HGC0.out)
    clear HGC0
    have HST := Lib.hid (fun w' (k : Grow w w') => state_any (c := c) (c2 := 0) w' (HH.out.grow k) (HeldsAt.nil w') (by omega) (by omega))
    rw [show sttK [] = [] from rfl] at HST
    obtain ⟨X, hX⟩ : ∃ q, q = sttC l := ⟨_, rfl⟩
    rw [← hX] at HGC HST
    clear hX
    have q64 : 1 + md ≤ 64 := by omega
    go_wp2_with fail
    refine (HST.out _ HB.out).mono ?_
    rintro e w2_ ⟨A3, n3, c3, A4, n4, c4, rfl, hr3, hr4, hb_⟩
    have HR3 := Lib.hid hr3; have HR4 := Lib.hid hr4
    replace HX := Lib.hid (HX.out.grow hb_); replace HB := Lib.hid (HB.out.grow' hb_)
    clear hr3 hr4 hb_ HST
    try clear w_
    rename World => w_
    go_wp2_with fail
    refine (made_any (c := c3) (c2 := c4) w_ HGC.out GoodK.nil HR3.out HR4.out).mono ?_
    rintro e w2_ ⟨g, b, g2, b2, rfl, hc_, hk_, hgb_, hne_, hb_⟩
    have HC := Lib.hid hc_; have HK := Lib.hid hk_; have HNE := Lib.hid hne_
    have HGB := Lib.hid (show ∀ x ∈ [g, b], w.heap.size ≤ x from fun x hx => by have := HB.out.size; simp only [List.mem_cons, List.not_mem_nil, or_false] at hx; rcases hx with rfl | rfl <;> omega)
    have HRX := Lib.hid HGC.out.self
    replace HX := Lib.hid (HX.out.grow hb_); replace HB := Lib.hid (HB.out.grow' hb_)
    clear hc_ hk_ hgb_ hne_ hb_ HR3 HR4 HGC
    try clear w_
    rename World => w_
    go_wp2_with fail
    refine (csum_any g b X (amtC X) w_ HC.out).mono ?_
    rintro e w9_ ⟨rfl, rfl⟩
    go_wp2_with (first | (with_reducible refine wpl_loadb (o := ⟨some 43, _, _, _, _, _⟩) rfl rfl row_tx HX.out.blk rfl HX.out.len ?_))
    refine (pay_any (1 + md) me w_ (TxKeep.of HT.out HB.out HGB.out) (HTT.out _ HB.out) HC.out HRX.out HK.out RelK.nil).mono ?_
    rintro e w2_ ⟨rfl, ⟨L1, s1, hc_, hr_⟩, ht_⟩
    have HNX := Lib.hid (HX.out.ne_coins HC.out (by decide))
    have HC1 := Lib.hid hc_; have HR1 := Lib.hid hr_
    replace HX := Lib.hid (HX.out.touchd ht_ HNX.out); replace HK := Lib.hid (HK.out.touchd ht_ HNE.out.1 HNE.out.2.1); replace HB := Lib.hid (below_touch HB.out ht_ HGB.out)
    clear hc_ hr_ ht_ HNX HC
    try clear w_
    rename World => w_
    have HPW := Lib.hid (fun (h : (inputsR X [] t (1 + md) me).2 = 0) L2 s2 (hr2 : RelC (payX X [] t (1 + md) me) L2 s2) => pay_was HRX.out h rfl hr2)
    have HPA := Lib.hid (fun (h : (inputsR X [] t (1 + md) me).2 = 0) => pay_again h)
    have HPS := Lib.hid (fun (h : (inputsR X [] t (1 + md) me).2 ≠ 0) => pay_same h)
    obtain ⟨X1, hX1⟩ : ∃ q, q = payX X [] t (1 + md) me := ⟨_, rfl⟩
    rw [← hX1] at HR1 HPW HPA HPS
    obtain ⟨R, hR⟩ : ∃ q, q = inputsR X [] t (1 + md) me := ⟨_, rfl⟩
    rw [← hR] at HPW HPA HPS ⊢
    clear hX1 hR
    obtain ⟨ra, rb⟩ := R
    go_upto_if 52 with fail
    go_cut [15, 16] from 53 to 71 (fun s15 s16 wr => Hid (CoinNow w wr g b g5 tv X1))
    case first =>
      by_cases h0 : rb = 0
      · have h0' : rb = 0 := h0
        subst h0'
        have z1 : ((0 : Int) == 0) = true := by decide
        go_wp2_with (first | (with_reducible refine wpl_loadb (o := ⟨some 54, _, _, _, _, _⟩) rfl rfl row_tx HX.out.blk rfl HX.out.len ?_))
        refine (pay_any (1 + md) me w_ (TxKeep.of HT.out HB.out HGB.out) (HTT.out _ HB.out) HC1.out HR1.out HK.out RelK.nil).mono ?_
        rintro e w2_ ⟨rfl, ⟨L2, s2, hc_, hr_⟩, ht_⟩
        have h13 := HPA.out (by first | trivial | rfl)
        rw [pay_same (by rw [h13]; omega)] at hr_
        have HS2 := Lib.hid (HPW.out (by first | trivial | rfl) L2 s2 hr_)
        have HNX := Lib.hid (HX.out.ne_coins HC1.out (by decide))
        have HC2 := Lib.hid hc_; have HR2 := Lib.hid hr_
        replace HX := Lib.hid (HX.out.touchd ht_ HNX.out); replace HB := Lib.hid (below_touch HB.out ht_ HGB.out)
        rw [h13]
        generalize (inputsR X1 [] t (1 + md) me).1 = rq
        clear hc_ hr_ ht_ HNX HC1 HR1 h13 HK
        try clear w_
        rename World => w_
        have z2 : ((13 : Int) != 13) = false := by decide
        go_wp2_with fail
        refine (csum_any g b L2 s2 w_ HC2.out).mono ?_
        rintro e w9_ ⟨rfl, rfl⟩
        have z3 : (s2 != IntKind.u64.wrap (amtC X - ra)) = false := by rw [HS2.out]; simp
        go_wp2_with fail
        go_meet
        case rel => exact Lib.hid ⟨b, L2, s2, HC2.out, HR2.out, HX.out, HB.out, .inl rfl⟩
      · have z1 : (rb == 0) = false := by simpa using h0
        go_wp2_with fail
        go_meet
        case rel => exact Lib.hid ⟨b, L1, s1, HC1.out, HR1.out, HX.out, HB.out, .inl rfl⟩
    case rest =>
      clear HX HB HC1 HR1 HK HPA HPW
      obtain ⟨b', L2, s2, hc_, hr_, hx_, hb_, hbb_⟩ := hcut.out
      have HC := Lib.hid hc_; have HR := Lib.hid hr_; have HX := Lib.hid hx_; have HB := Lib.hid hb_
      have HGB2 := Lib.hid (show w.heap.size ≤ g ∧ w.heap.size ≤ b' by have h1 := HGB.out g (by simp); have h2 := HGB.out b (by simp); rcases hbb_ with rfl | h <;> omega)
      have HSX := Lib.hid (show rb ≠ 0 → s2 = amtC X from fun h => by rw [← hr_.amt, HPS.out h])
      clear hcut hc_ hr_ hx_ hb_ hbb_ HPS
      try clear w_
      rename World => w_
      go_upto_region 13 with fail
      go_cut [79] from 72 to 79 (fun s79 wr => s79 = .bool false ∧ wr = w_)
      case first =>
        by_cases h0 : rb = 0
        · subst h0
          have z1 : ((0 : Int) != 0) = false := by decide
          go_wp2_with fail
          go_meet
          case rel => exact ⟨rfl, rfl⟩
        · have z1 : (rb != 0) = true := by simpa using h0
          have z2 : (s2 != amtC X) = false := by rw [HSX.out h0]; simp
          go_wp2_with fail
          refine (csum_any g b' L2 s2 w_ HC.out).mono ?_
          rintro e w9_ ⟨rfl, rfl⟩
          go_wp2_with fail
          go_meet
          case rel => exact ⟨rfl, rfl⟩
      case rest =>
        obtain ⟨rfl, rfl⟩ := hcut
        go_wp2_with fail
        refine (csum_any g b' L2 s2 _ HC.out).mono ?_
        rintro e w9_ ⟨rfl, rfl⟩
        have HMW := Lib.hid (fun (h : (mintR X1 t (1 + md) me).2.2 = 0) L3 s3 (hr3 : RelC (mintR X1 t (1 + md) me).1 L3 s3) => mint_was HR.out h rfl hr3)
        have HMA := Lib.hid (fun (h : (mintR X1 t (1 + md) me).2.2 = 0) => mint_again h)
        have HMS := Lib.hid (fun (h : (mintR X1 t (1 + md) me).2.2 ≠ 0) => mint_same h)
        have HMI := Lib.hid (fun w' (hb : Below w.heap.size w w') b' L s X2 (hc : CoinsAt w' g b' L s) (hr : RelC X2 L s) => mint_any (1 + md) me w' (HT.out.grow hb) (HTT.out _ hb) hc hr)
        have HMI1 := Lib.hid (HMI.out _ HB.out b' L2 s2 X1 HC.out HR.out)
        obtain ⟨M, hM⟩ : ∃ q, q = mintR X1 t (1 + md) me := ⟨_, rfl⟩
        rw [← hM] at HMW HMA HMS HMI1
        clear hM
        obtain ⟨X2, ma, mb⟩ := M
        go_wp2_with (first | (with_reducible refine wpl_loadb (o := ⟨some 83, _, _, _, _, _⟩) rfl rfl row_tx HX.out.blk rfl HX.out.len ?_))
        refine HMI1.out.mono ?_
        rintro e w2_ ⟨rfl, ⟨b3, L3, s3, hc_, hr_, hbb_⟩, ht_⟩
        have HNX := Lib.hid (HX.out.ne_coins HC.out (by decide))
        have HC3 := Lib.hid hc_; have HR3 := Lib.hid hr_
        replace HX := Lib.hid (HX.out.touchd ht_ (fun h => HNX.out (by simp only [List.mem_singleton] at h; rw [h]; simp)))
        replace HB := Lib.hid (below_touch HB.out ht_ (fun x hx => by simp only [List.mem_singleton] at hx; rw [hx]; exact HGB2.out.1))
        clear hc_ hr_ hbb_ ht_ HNX HC HMI1
        try clear w_
        rename World => w_
        by_cases h0 : mb = 0
        · subst h0
          have z1 : ((0 : Int) == 0) = true := by decide
          have z2 : ((24 : Int) != 24) = false := by decide
          obtain ⟨a1, a2⟩ := HMA.out (by first | trivial | rfl)
          have HMI1 := Lib.hid (HMI.out _ HB.out b3 L3 s3 X2 HC3.out HR3.out)
          rw [a1, a2] at HMI1
          generalize (mintR X2 t (1 + md) me).2.1 = rq at HMI1
          clear a1 a2 HMI HMA HMS
          go_wp2_with (first | (with_reducible refine wpl_loadb (o := ⟨some 93, _, _, _, _, _⟩) rfl rfl row_tx HX.out.blk rfl HX.out.len ?_))
          refine HMI1.out.mono ?_
          rintro e w2_ ⟨rfl, ⟨b4, L4, s4, hc_, hr_, hbb_⟩, ht_⟩
          have HC4 := Lib.hid hc_
          have HS4 := Lib.hid (HMW.out (by first | trivial | rfl) L4 s4 hr_)
          replace HB := Lib.hid (below_touch HB.out ht_ (fun x hx => by simp only [List.mem_singleton] at hx; rw [hx]; exact HGB2.out.1))
          clear hc_ hr_ hbb_ ht_ HC3 HR3 HX HMI1 HMW
          try clear w_
          rename World => w_
          go_wp2_with fail
          refine (csum_any g b4 L4 s4 _ HC4.out).mono ?_
          rintro e w9_ ⟨rfl, rfl⟩
          have z3 : (s4 != IntKind.u64.wrap (s2 + ma)) = false := by rw [HS4.out]; simp
          go_wp2_with fail
          refine (HAW.out _ HB.out).mono ?_
          rintro e w2_ ⟨rfl, hb_⟩
          replace HB := Lib.hid (HB.out.grow' hb_)
          go_wp2_with fail
          go_ret
          exact ⟨rfl, HB.out⟩
        · have z1 : (mb == 0) = false := by simpa using h0
          have HS3 := Lib.hid (show s3 = s2 by rw [← HR3.out.amt, HMS.out h0, HR.out.amt])
          have z2 : (s3 == s2) = true := by rw [HS3.out]; simp
          clear HMI HMA HMS HMW
          go_wp2_with fail
          refine (csum_any g b3 L3 s3 _ HC3.out).mono ?_
          rintro e w9_ ⟨rfl, rfl⟩
          go_wp2_with fail
          refine (HAW.out _ HB.out).mono ?_
          rintro e w2_ ⟨rfl, hb_⟩
          replace HB := Lib.hid (HB.out.grow' hb_)
          go_wp2_with fail
          go_ret
          exact ⟨rfl, HB.out⟩
end Go.Proofs.YtnnjjbkdjkjnpaaGreatDoor
/- The given card SpendOnceCardSaid, out of the walk spendOnce_walk: for every input the law returns true, and each argument reads as it did; the tables of package sha are tied to the program's text. No condition. -/
namespace Go.Proofs.YtnnjjbkdjkjnpaaGreatDoor.lawSpendOnce
open Go.ChangeShapes Go.WideShapes Go.ChangeAt Go.RowKit
open Go.ChangeMaps (open_string shut_string)
set_option linter.unusedVariables false
theorem laidOut : laidOutB Tryz.prog = true := laid_out
set_option maxRecDepth 100000 in
theorem contract (H : Type) (enc : TypeId × Value → H) (W : World) (base : Nat) (args : Array Value) (ds gs : List (DataW H)) (before : List MemPlace)
    (hval0 : ∀ (j : Nat) t v, Tryz.f3.params[j]? = some t → args[j]? = some v → Value.okWide Tryz.prog W .any base t v)
    (hW : DataW.Whole enc Tryz.prog Tryz.f3.params.toList Rows.spendOnceSpec.vars false W args.toList ds gs before) (hL : laidMetH Tryz.prog Rows.spendOnceRow.laid W) :
    Calls Tryz.prog 3 args W fun e W' => ∃ v, e = .returned v ∧ Rows.spendOnceSpec.post enc Tryz.prog Tryz.f3 false true false false W args v W' := by
  have hval : ∀ (j : Nat) t v, Tryz.f3.params[j]? = some t → args[j]? = some v → Value.okWide Tryz.prog W .any base t v := hval0
  have hW' := hW
  obtain ⟨p, q, hA0, hV, rfl, hfz, hnd⟩ := hW
  have hA : DataW.TrodAll enc Tryz.prog W 0 (fun _ => true) true Tryz.f3.params.toList args.toList ds p := hA0
  rw [Tryz.params3] at hA hval
  obtain ⟨v0, vs0, d0, ds0, p0, q0, hargs, rfl, rfl, h0, r0⟩ := trodAll_cons hA
  obtain ⟨v1, vs1, d1, ds1, p1, q1, rfl, rfl, rfl, h1, r1⟩ := trodAll_cons r0
  obtain ⟨v2, vs2, d2, ds2, p2, q2, rfl, rfl, rfl, h2, r2⟩ := trodAll_cons r1
  obtain ⟨v3, vs3, d3, ds3, p3, q3, rfl, rfl, rfl, h3, r3⟩ := trodAll_cons r2
  obtain ⟨rfl, rfl, rfl⟩ := trodAll_nil r3
  obtain rfl : args = #[v0, v1, v2, v3] := by cases args; simp_all
  obtain ⟨rfl, rfl⟩ := trodVars_none hV
  have k0 := h0
  have lt0 : ∀ x ∈ p0, x.block < W.heap.size := by obtain ⟨m, hm⟩ := k0; exact DataW.trod_lt m _ _ _ hm
  obtain ⟨x0_0, x0_1, x0_2, x0_3, rfl, f0_0, f0_1⟩ := open_held (hval 0 22 v0 rfl rfl) h0
  have k1 := h1
  have lt1 : ∀ x ∈ p1, x.block < W.heap.size := by obtain ⟨m, hm⟩ := k1; exact DataW.trod_lt m _ _ _ hm
  obtain ⟨x1_0, x1_1, x1_2, x1_3, x1_4, x1_5, x1_6, x1_7, x1_8, x1_9, rfl, f1_0, f1_1, f1_2, f1_3, f1_4, f1_5⟩ := open_tx (hval 1 27 v1 rfl rfl) h1
  have k2 := h2
  have lt2 : ∀ x ∈ p2, x.block < W.heap.size := by obtain ⟨m, hm⟩ := k2; exact DataW.trod_lt m _ _ _ hm
  obtain ⟨a2, rfl, rfl, rfl, w2⟩ := open_int Tryz.underlying5 (hval 2 5 v2 rfl rfl) h2
  have k3 := h3
  have lt3 : ∀ x ∈ p3, x.block < W.heap.size := by obtain ⟨m, hm⟩ := k3; exact DataW.trod_lt m _ _ _ hm
  obtain ⟨a3, rfl, rfl, rfl, w3⟩ := open_int Tryz.underlying3 (hval 3 3 v3 rfl rfl) h3
  have htabs : Tabs W := tabs_of hL
  clear hA0 hval0 hL
  refine (spendOnce_walk x0_0 x0_1 x0_2 x0_3 x1_0 x1_1 x1_2 x1_3 x1_4 x1_5 x1_6 x1_7 x1_8 x1_9 a2 a3 W f0_0 f0_1 f1_0 f1_1 f1_2 f1_3 f1_4 f1_5 w2 w3 htabs).mono fun e W' ⟨he, bel⟩ => ?_
  subst he
  exact ⟨_, rfl, _, _, _, [], _, [], hW', trodAll_mk1 (shut_bool Tryz.underlying4 _), (trodAll_cons_mk (Below.trod laidOut (by kernel_rfl) (of_decide_eq_true (by kernel_rfl)) k0 bel lt0) (trodAll_cons_mk (Below.trod laidOut (by kernel_rfl) (of_decide_eq_true (by kernel_rfl)) k1 bel lt1) (trodAll_cons_mk (Below.trod laidOut (by kernel_rfl) (of_decide_eq_true (by kernel_rfl)) k2 bel lt2) (trodAll_cons_mk (Below.trod laidOut (by kernel_rfl) (of_decide_eq_true (by kernel_rfl)) k3 bel lt3) trodAll_mk0)))), rfl, bel.frame _, fun h => by cases h⟩
theorem laid_met (os : Os) : laidMet Tryz.prog Rows.spendOnceRow.laid ((laidWorld os).forCall (fun _ _ => 0) ⟨#[], #[.slice none 0 0, .agg (txV none 0 0 none 0 0 0 0).toArray, .int .u8 0, .int .i64 0], []⟩).memory :=
  laidMet_of_run' 8 (by kernel_rfl) (by kernel_rfl)
theorem reads (os : Os) {H : Type} (enc : TypeId × Value → H) : ∃ ds places, DataW.whole enc Tryz.prog ((laidWorld os).forCall (fun _ _ => 0) ⟨#[], #[.slice none 0 0, .agg (txV none 0 0 none 0 0 0 0).toArray, .int .u8 0, .int .i64 0], []⟩).memory Tryz.f3.params.toList Rows.spendOnceSpec.vars false #[.slice none 0 0, .agg (txV none 0 0 none 0 0 0 0).toArray, .int .u8 0, .int .i64 0].toList 8 = some (ds, [], places) := by
  obtain ⟨⟨ds, gs, pl⟩, h, e⟩ := Option.map_eq_some_iff.1 (show (DataW.whole enc Tryz.prog ((laidWorld os).forCall (fun _ _ => 0) ⟨#[], #[.slice none 0 0, .agg (txV none 0 0 none 0 0 0 0).toArray, .int .u8 0, .int .i64 0], []⟩).memory Tryz.f3.params.toList Rows.spendOnceSpec.vars false #[.slice none 0 0, .agg (txV none 0 0 none 0 0 0 0).toArray, .int .u8 0, .int .i64 0].toList 8).map (fun x => x.2.1) = some [] by kernel_rfl)
  simp only at e
  subst e
  exact ⟨ds, pl, h⟩
set_option maxRecDepth 100000 in
theorem lifted (os : Os) (started : os.Started) (H : Type) (enc : TypeId × Value → H) (F : Stop.Interp) :
    ReturnsInHanded {} Tryz.checked os 3 .any ((OpenSpec.ofChange Rows.spendOnceSpec).preRow enc Tryz.prog Tryz.f3 Rows.spendOnceRow.domain false Rows.spendOnceRow.laid) (((OpenSpec.ofChange Rows.spendOnceSpec).at F).post enc Tryz.prog Tryz.f3 false true false false) := by
  obtain ⟨ds, places, hx⟩ := reads os enc
  refine returnsInHanded_of_row (C := Tryz.checked) (s := OpenSpec.ofChange Rows.spendOnceSpec) own_knob started (by kernel_rfl) Tryz.func3
    (witness_row_at (enc := enc) (C := Tryz.checked) false (laidWorld os) #[.slice none 0 0, .agg (txV none 0 0 none 0 0 0 0).toArray, .int .u8 0, .int .i64 0] rfl (by kernel_rfl) (by kernel_rfl) (by kernel_rfl)
      (OpenSpec.preRow_of_cond 8 hx (by kernel_rfl) (fun k hk => by cases hk) (by kernel_rfl) (laid_met os))) ?_
  intro W base args ds gs before hval hW _ _ _ hL _ _
  exact contract H enc W base args ds gs before hval hW hL
theorem said : Rows.SpendOnceSaid :=
  OpenClaim.holds_of_cond 3 Tryz.f3 rfl rfl rfl rfl rfl rfl rfl ⟨rfl, rfl, rfl, rfl, rfl⟩ rfl rfl rfl rfl rfl (by kernel_rfl) Tryz.func3 (by kernel_rfl)
    (of_decide_eq_true (by kernel_rfl)) (by unfold Func.isWrapper; first | (rw [if_pos (by decide +kernel)]; kernel_rfl) | (rw [if_neg (by decide +kernel)]; exact ⟨rfl, rfl⟩))
    (fun os started H enc _ F => by rw [OpenClaim.pre_eq_preRow]; exact lifted os started H enc F)
theorem plain (f : FuncId) (fn : Func) (hf : Tryz.pinned.checked.prog.funcNamed "seisin/seisinlaw22.SpendOnce" = some f) (hfn : Tryz.pinned.checked.prog.funcs[f]? = some fn) :
    true = Tryz.pinned.checked.prog.looks [] ∧ ∀ (j : Nat) t, fn.params[j]? = some t → Tryz.pinned.checked.prog.wantsStandIn t = false := by
  obtain rfl : f = 3 := Option.some.inj ((show Tryz.prog.funcNamed "seisin/seisinlaw22.SpendOnce" = some 3 by kernel_rfl).symm.trans hf) |>.symm
  obtain rfl : fn = Tryz.f3 := (Option.some.inj (Tryz.func3.symm.trans hfn)).symm
  refine ⟨by kernel_rfl, fun j t ht => ?_⟩
  rw [Tryz.params3] at ht
  have hm : t ∈ [22, 27, 5, 3] := by simpa using Array.mem_of_getElem? ht
  have hall : ([22, 27, 5, 3].all fun u => !Tryz.prog.wantsStandIn u) = true := by kernel_rfl
  exact (show Tryz.prog.wantsStandIn t = false by simpa using List.all_eq_true.1 hall t hm)
theorem proved : Rows.SpendOnceCardSaid :=
  Claim7.holds_tied_plain_at .later [] _ _ _ _ said (fun _ h => by cases h) (by kernel_rfl) (fun _ h => by cases h) spendOnce_row_tie rfl ⟨rfl, rfl⟩ (by kernel_rfl) rfl plain (by kernel_rfl)
#print axioms proved
end Go.Proofs.YtnnjjbkdjkjnpaaGreatDoor.lawSpendOnce

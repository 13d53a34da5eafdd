/- What was paid is not paid again, what was minted is not minted again: plain. -/
import Derived.Test.YtnnjjbkdjkjnpaaGreatDoorSpendBackRd34
set_option linter.unusedSimpArgs false
set_option linter.unusedVariables false
set_option maxRecDepth 100000
set_option maxHeartbeats 16000000
namespace Go.Proofs.YtnnjjbkdjkjnpaaGreatDoor
open Go.RowKit Go.Maps Go.Sort Go.Shelf
theorem w64_eq (a : Int) : w64 a = a % 18446744073709551616 := by unfold w64; rw [IntKind.wrap_u64]
def amts (ins : List Inp) (ks : List Nat) : Int := (ks.filterMap fun k => (ins[k]?).map Inp.amount).sum
theorem inputE_zero {X : CoinsL} {Y : LocksL} {i : Inp} (h : inputE X Y i = 0) : ∃ c, lookC X i.pt = some c ∧ c.2 = i.amount ∧ lookL Y i.pt = none := by
 unfold inputE at h
 split at h
 ·omega
 ·rename_i hl
  cases hc : lookC X i.pt with
  | none => rw [hc] at h; simp at h
  | some c =>
   rw [hc] at h
   simp only at h
   split at h
   ·omega
   ·split at h
    ·omega
    ·rename_i h2
     exact ⟨c, rfl, by omega, by simpa using hl⟩
theorem sums_sum {X : CoinsL} {Y : LocksL} {ins : List Inp} : ∀ (ks : List Nat) (s sm : Int), (∀ k ∈ ks, k < ins.length) → sumsR X Y ins ks s = (sm, 0) → w64 sm = w64 (s + amts ins ks) ∧ ∀ k ∈ ks, ∀ i, ins[k]? = some i → ∃ c, lookC X i.pt = some c ∧ c.2 = i.amount
 | [], s, sm, _, h => by
  have : s = sm := by injection h
  rw [this]; simp [amts]
 | k :: r, s, sm, hl, h => by
  have hk := hl k (List.mem_cons_self ..)
  have hi : ins[k]? = some ins[k] := List.getElem?_eq_getElem hk
  unfold sumsR at h
  simp only [hi] at h
  split at h
  ·rename_i h0; injection h with _ h2; exact absurd h2 h0
  ·rename_i h0
   have h0 : inputE X Y ins[k] = 0 := by omega
   obtain ⟨h1, h2⟩ := sums_sum r _ sm (fun x hx => hl x (List.mem_cons_of_mem _ hx)) h
   refine ⟨?_, fun x hx i hxi => ?_⟩
   ·have e : amts ins (k :: r) = ins[k].amount + amts ins r := by unfold amts; rw [List.filterMap_cons, hi]; simp
    rw [h1, e, w64_eq, w64_eq, w64_eq]; omega
   ·rcases List.mem_cons.1 hx with rfl | hx
    ·rw [hi] at hxi
     obtain rfl := Option.some.inj hxi
     obtain ⟨c, c1, c2, _⟩ := inputE_zero h0
     exact ⟨c, c1, c2⟩
    ·exact h2 x hx i hxi
theorem twice_nd {t : Txn} (h : checkT t = 0) : (t.ins.map Inp.pt).Nodup := by
 unfold checkT at h
 split at h
 ·omega
 ·split at h
  ·omega
  ·rename_i h2
   unfold twiceT at h2
   simpa using h2
theorem inputs_ok {X : CoinsL} {Y : LocksL} {t : Txn} {n me : Int} (h : (inputsR X Y t n me).2 = 0) : checkT t = 0 ∧ hereI t n me ≠ [] ∧ sumsR X Y t.ins (hereI t n me) 0 = ((inputsR X Y t n me).1, 0) := by
 by_cases h1 : checkT t = 0
 ·by_cases h2 : hereI t n me = []
  ·exfalso; unfold inputsR at h; rw [if_neg (by omega), if_pos h2] at h; simp at h
  ·refine ⟨h1, h2, ?_⟩
   have e : inputsR X Y t n me = sumsR X Y t.ins (hereI t n me) 0 := by unfold inputsR; rw [if_neg (by omega), if_neg h2]
   rw [e] at h ⊢
   exact Prod.ext rfl h
 ·exfalso; unfold inputsR at h; rw [if_pos h1] at h; exact h1 h
def coinsOf (Y : LocksL) : CoinsL := Y.map fun e => (e.1, e.2.1)
theorem amt_of (Y : LocksL) : amtC (coinsOf Y) = amtK Y := by unfold amtC amtK coinsOf; rw [List.map_map]; rfl
theorem perm_cut {X : CoinsL} (hd : (X.map (·.1)).Nodup) {p : PtK} {c : CoinV} (h : lookC X p = some c) : X.Perm ((p, c) :: cutC X p) := by
 induction X with
 | nil => simp [lookC] at h
 | cons e r ih =>
  rw [List.map_cons, List.nodup_cons] at hd
  by_cases he : e.1 = p
  ·have h2 : lookC (e :: r) p = some e.2 := by unfold lookC; rw [List.find?_cons_of_pos (by simpa using he)]; rfl
   rw [h2] at h
   have h3 : cutC (e :: r) p = r := by
    unfold cutC
    rw [List.filter_cons_of_neg (by simpa using he)]
    exact List.filter_eq_self.2 (fun x hx => by
     have : x.1 ≠ p := fun hxp => hd.1 (List.mem_map.2 ⟨x, hx, by rw [hxp, he]⟩)
     simpa using this)
   rw [h3]
   have : e = (p, c) := by rw [← he, ← Option.some.inj h]
   rw [this]
  ·have h2 : lookC (e :: r) p = lookC r p := by unfold lookC; rw [List.find?_cons_of_neg (by simpa using he)]
   have h3 : cutC (e :: r) p = e :: cutC r p := by unfold cutC; rw [List.filter_cons_of_pos (by simpa using he)]
   rw [h2] at h
   rw [h3]
   exact ((ih hd.2 h).cons e).trans (List.Perm.swap _ _ _)
structure LockInv (X0 : CoinsL) (id : List UInt8) (X : CoinsL) (Y : LocksL) : Prop where
 perm : X0.Perm (X ++ coinsOf Y)
 own : ∀ e ∈ Y, e.2.2 = id
theorem LockInv.nd {X0 X : CoinsL} {Y : LocksL} {id : List UInt8} (h : LockInv X0 id X Y) (hg : GoodC X0) : ((X ++ coinsOf Y).map (·.1)).Nodup := (h.perm.map (·.1)).nodup_iff.1 hg.self.ok.2
theorem LockInv.ndX {X0 X : CoinsL} {Y : LocksL} {id : List UInt8} (h : LockInv X0 id X Y) (hg : GoodC X0) : (X.map (·.1)).Nodup := by
 have := h.nd hg; rw [List.map_append, List.nodup_append] at this; exact this.1
theorem LockInv.mem {X0 X : CoinsL} {Y : LocksL} {id : List UInt8} (h : LockInv X0 id X Y) {e : PtK × CoinV} (he : e ∈ X) : e ∈ X0 := h.perm.mem_iff.2 (List.mem_append_left _ he)
theorem LockInv.amt {X0 X : CoinsL} {Y : LocksL} {id : List UInt8} (h : LockInv X0 id X Y) : amtC X0 = amtC X + amtK Y := by rw [amtC_perm h.perm, amtC_app, amt_of]
theorem look_mem {X : CoinsL} {p : PtK} {c : CoinV} (h : lookC X p = some c) : (p, c) ∈ X := by
 unfold lookC at h
 obtain ⟨e, he, rfl⟩ := Option.map_eq_some_iff.1 h
 have h1 := List.mem_of_find?_eq_some he
 have h2 := List.find?_some he
 have h3 : e.1 = p := by simpa using h2
 rw [← h3]; exact h1
theorem LockInv.step {X0 X : CoinsL} {Y : LocksL} {id : List UInt8} (h : LockInv X0 id X Y) (hg : GoodC X0) {p : PtK} {c : CoinV} (hl : lookC X p = some c) (h64 : Y.length < 64) :
  (rputK Y p (c, id)).1 = insK p (c, id) Y ∧ LockInv X0 id (cutC X p) (insK p (c, id) Y) := by
 have hm := look_mem hl
 have hm0 := h.mem hm
 have hix := hg.self.ix _ hm0
 have hz := hg.2 _ hm0
 have hok := hg.self.okX _ hm0
 have hmx := hg.self.max
 have ha := h.amt
 have hXok : ∀ e ∈ X, AtOKC e := fun e he => hg.self.okX e (h.mem he)
 have hge := amtC_ge hXok hm
 have hc0 := amtC_cut (p := p) (h.ndX hg)
 rw [hl] at hc0
 simp only [Option.getD_some] at hc0
 have hcn := amtC_nn (l := cutC X p) (fun e he => hXok e (List.mem_filter.1 he).1)
 have hYn : 0 ≤ amtK Y := by
  rw [← amt_of]
  exact amtC_nn (fun e he => hg.self.okX e (h.perm.mem_iff.2 (List.mem_append_right _ he)))
 have hlk : (lookL Y p).isSome = false := by
  have hnd := h.nd hg
  rw [List.map_append, List.nodup_append] at hnd
  rw [lookL_not (fun x hx hxp => hnd.2.2 p (List.mem_map.2 ⟨_, hm, rfl⟩) x.1 (List.mem_map.2 ⟨(x.1, x.2.1), List.mem_map.2 ⟨x, hx, rfl⟩, rfl⟩) hxp.symm)]
  rfl
 simp only at hix hz hok hge
 have hput : rputK Y p (c, id) = (insK p (c, id) Y, 0) := by
  unfold rputK
  rw [if_neg (by show ¬ (p.2 < 0 ∨ 16 ≤ p.2 ∨ c.2 = 0 ∨ 4611686018427387904 < c.2); omega), hlk, if_neg (by simp), if_neg (by omega), if_neg (by show ¬ (4611686018427387904 - c.2 < amtK Y); omega)]
 refine ⟨by rw [hput], ⟨?_, fun e he => ?_⟩⟩
 ·have h1 := perm_cut (h.ndX hg) hl
  have h2 : (coinsOf (insK p (c, id) Y)).Perm ((p, c) :: coinsOf Y) := (insK_perm p (c, id) Y).map _
  refine h.perm.trans ((h1.append_right _).trans ?_)
  refine List.Perm.trans ?_ (List.Perm.append_left _ h2.symm)
  exact List.perm_middle.symm
 ·rcases List.mem_cons.1 ((insK_perm p (c, id) Y).mem_iff.1 he) with rfl | he
  ·rfl
  ·exact h.own e he
theorem insK_len (p : PtK) (c : LockV) (Y : LocksL) : (insK p c Y).length = Y.length + 1 := by rw [(insK_perm p c Y).length_eq]; rfl
theorem look_keyK {Y : LocksL} {p : PtK} (h : ∃ e ∈ Y, e.1 = p) : (lookL Y p).isSome = true := by
 unfold lookL
 rw [Option.isSome_map, List.find?_isSome]
 obtain ⟨x, hx, h⟩ := h
 exact ⟨x, hx, by simpa using h⟩
theorem locks_all {X0 : CoinsL} (hg : GoodC X0) {id : List UInt8} {ins : List Inp} (hd : (ins.map Inp.pt).Nodup) : ∀ (ks : List Nat) (X : CoinsL) (Y : LocksL), LockInv X0 id X Y → ks.Nodup → (∀ k ∈ ks, k < ins.length) → Y.length + ks.length ≤ 64 →
  (∀ k ∈ ks, ∀ i, ins[k]? = some i → ∃ c, lookC X i.pt = some c ∧ c.2 = i.amount) →
  LockInv X0 id (locksR id ins ks X Y).1 (locksR id ins ks X Y).2 ∧ amtK (locksR id ins ks X Y).2 = amtK Y + amts ins ks ∧ (∀ e ∈ Y, e ∈ (locksR id ins ks X Y).2) ∧ ∀ k ∈ ks, ∀ i, ins[k]? = some i → (lookL (locksR id ins ks X Y).2 i.pt).isSome = true
 | [], X, Y, h, _, _, _, _ => by simp [locksR, amts, h]
 | k :: r, X, Y, h, hn, hl, h64, hall => by
  have hk := hl k (List.mem_cons_self ..)
  have hi : ins[k]? = some ins[k] := List.getElem?_eq_getElem hk
  rw [List.nodup_cons] at hn
  rw [List.length_cons] at h64
  obtain ⟨c, c1, c2⟩ := hall k (List.mem_cons_self ..) _ hi
  obtain ⟨s1, s2⟩ := h.step hg c1 (by omega)
  have e1 : locksR id ins (k :: r) X Y = locksR id ins r (cutC X ins[k].pt) (insK ins[k].pt (c, id) Y) := by
   simp only [locksR, hi]
   rw [c1, Option.getD_some, s1]
  have e2 : amts ins (k :: r) = ins[k].amount + amts ins r := by unfold amts; rw [List.filterMap_cons, hi]; simp
  have ea : amtK (insK ins[k].pt (c, id) Y) = c.2 + amtK Y := by
   rw [amtK_perm (insK_perm _ _ Y), show (ins[k].pt, (c, id)) :: Y = [(ins[k].pt, (c, id))] ++ Y from rfl, amtK_app, amtK_one]
  have hin : ∀ x ∈ Y, x ∈ insK ins[k].pt (c, id) Y := fun x hx => (insK_perm _ _ Y).mem_iff.2 (List.mem_cons_of_mem _ hx)
  obtain ⟨r1, r2, r3, r4⟩ := locks_all hg hd r (cutC X ins[k].pt) (insK ins[k].pt (c, id) Y) s2 hn.2 (fun x hx => hl x (List.mem_cons_of_mem _ hx)) (by rw [insK_len]; omega) (fun x hx i hxi => by
   obtain ⟨c', d1, d2⟩ := hall x (List.mem_cons_of_mem _ hx) i hxi
   refine ⟨c', ?_, d2⟩
   rw [lookC_cut_ne (fun e => ?_)]
   ·exact d1
   ·have h1 : (ins.map Inp.pt)[x]? = some i.pt := by rw [List.getElem?_map, hxi]; rfl
    have h2 : (ins.map Inp.pt)[k]? = some i.pt := by rw [List.getElem?_map, hi, e]; rfl
    have := (List.getElem?_inj (by rw [List.length_map]; exact hk) hd).1 (h2.trans h1.symm)
    exact hn.1 (this ▸ hx))
  rw [e1]
  refine ⟨r1, by rw [r2, ea, e2]; omega, fun e he => r3 e (hin e he), fun x hx i hxi => ?_⟩
  rcases List.mem_cons.1 hx with rfl | hx
  ·rw [hi] at hxi
   obtain rfl := Option.some.inj hxi
   exact look_keyK ⟨_, r3 _ ((insK_perm _ _ Y).mem_iff.2 (List.mem_cons_self ..)), rfl⟩
  ·exact r4 x hx i hxi
theorem backs_all {X0 : CoinsL} (hg : GoodC X0) : ∀ (H : LocksL) (X : CoinsL), X0.Perm (X ++ coinsOf H) → (backsR H X).2 = 0 ∧ X0.Perm (backsR H X).1
 | [], X, h => by simpa [backsR, coinsOf] using h
 | e :: r, X, h => by
  have hm0 : (e.1, e.2.1) ∈ X0 := h.mem_iff.2 (List.mem_append_right _ (by simp [coinsOf]))
  have hix := hg.self.ix _ hm0
  have hz := hg.2 _ hm0
  have hmx := hg.self.max
  have hnd : ((X ++ coinsOf (e :: r)).map (·.1)).Nodup := (h.map (·.1)).nodup_iff.1 hg.self.ok.2
  have hall : ∀ x ∈ X ++ coinsOf (e :: r), AtOKC x := fun x hx => hg.self.okX x (h.mem_iff.2 hx)
  have ha : amtC X0 = amtC X + (e.2.1.2 + amtC (coinsOf r)) := by
   rw [amtC_perm h, amtC_app, show coinsOf (e :: r) = [(e.1, e.2.1)] ++ coinsOf r from rfl, amtC_app, amtC_one]
  have hXn := amtC_nn (l := X) (fun x hx => hall x (List.mem_append_left _ hx))
  have hrn := amtC_nn (l := coinsOf r) (fun x hx => hall x (List.mem_append_right _ (by rw [show coinsOf (e :: r) = (e.1, e.2.1) :: coinsOf r from rfl]; exact List.mem_cons_of_mem _ hx)))
  have hlen : X.length < 256 := by
   have h1 := h.length_eq
   have h2 := hg.self.len
   rw [List.length_append, show coinsOf (e :: r) = (e.1, e.2.1) :: coinsOf r from rfl, List.length_cons] at h1
   omega
  have hlk : (lookC X e.1).isSome = false := by
   rw [List.map_append, List.nodup_append] at hnd
   rw [lookC_not (fun x hx hxp => hnd.2.2 x.1 (List.mem_map.2 ⟨x, hx, rfl⟩) e.1 (by simp [coinsOf]) hxp)]
   rfl
  simp only at hix hz
  have hput : rputC X e.1 e.2.1 = (insC e.1 e.2.1 X, 0) := by
   unfold rputC
   rw [if_neg (by have := (hg.self.okX _ hm0).2.2.1; simp only at this; omega), hlk, if_neg (by simp), if_neg (by omega), if_neg (by omega)]
  have hp2 : X0.Perm (insC e.1 e.2.1 X ++ coinsOf r) := by
   refine h.trans ?_
   refine List.Perm.trans ?_ ((insC_perm e.1 e.2.1 X).symm.append_right _)
   exact List.perm_middle
  obtain ⟨r1, r2⟩ := backs_all hg r (insC e.1 e.2.1 X) hp2
  have e1 : backsR (e :: r) X = backsR r (insC e.1 e.2.1 X) := by
   show (if (rputC X e.1 e.2.1).2 ≠ 0 then (X, (rputC X e.1 e.2.1).2) else backsR r (rputC X e.1 e.2.1).1) = _
   rw [hput, if_neg (fun h => h rfl)]
  rw [e1]; exact ⟨r1, r2⟩
theorem sumW_eq : ∀ (l : List Int) (s : Int), 0 ≤ s → s ≤ 18446744073709551615 → sumW l s = w64 (s + l.sum)
 | [], s, h1, h2 => by show s = _; rw [w64_eq]; simp; omega
 | a :: l, s, h1, h2 => by
  show sumW l (w64 (s + a)) = _
  have := w64_rng (s + a)
  rw [sumW_eq l _ this.1 this.2, List.sum_cons, w64_eq, w64_eq, w64_eq]
  omega
theorem sumsR_rng {X : CoinsL} {Y : LocksL} {ins : List Inp} : ∀ (ks : List Nat) (s : Int), 0 ≤ s → s ≤ 18446744073709551615 → 0 ≤ (sumsR X Y ins ks s).1 ∧ (sumsR X Y ins ks s).1 ≤ 18446744073709551615
 | [], s, h1, h2 => ⟨h1, h2⟩
 | k :: r, s, h1, h2 => by
  unfold sumsR
  split
  ·simp
  ·split
   ·simp
   ·exact sumsR_rng r _ (w64_rng _).1 (w64_rng _).2
theorem lock_back {X : CoinsL} (hg : GoodC X) {t : Txn} {n me : Int} (h : (lockR X [] t n me).2.2 = 0) :
  checkT t = 0 ∧ amtK (lockR X [] t n me).1.2 = (lockR X [] t n me).2.1 ∧ amtC (lockR X [] t n me).1.1 = amtC X - (lockR X [] t n me).2.1 ∧ (ofK (lockR X [] t n me).1.2 (tidB t)).length = (lockR X [] t n me).1.2.length ∧
  (inputsR (lockR X [] t n me).1.1 (lockR X [] t n me).1.2 t n me).2 = 14 ∧ (backR (lockR X [] t n me).1.1 (lockR X [] t n me).1.2 (tidB t)).2 = ((lockR X [] t n me).2.1, 0) ∧ X.Perm (backR (lockR X [] t n me).1.1 (lockR X [] t n me).1.2 (tidB t)).1.1 ∧ (backR (lockR X [] t n me).1.1 (lockR X [] t n me).1.2 (tidB t)).1.2 = [] := by
 have hin : (inputsR X [] t n me).2 = 0 := by
  by_cases h0 : (inputsR X [] t n me).2 = 0
  ·exact h0
  ·exfalso; unfold lockR at h; rw [if_pos h0] at h; exact h0 h
 have hE : lockR X [] t n me = (locksR (tidB t) t.ins (hereI t n me) X [], (inputsR X [] t n me).1, 0) := by
  unfold lockR at h ⊢
  rw [if_neg (fun hh => hh hin)] at h ⊢
  by_cases h1 : 64 < ([] : LocksL).length + (hereI t n me).length
  ·rw [if_pos h1] at h; simp at h
  ·rw [if_neg h1] at h ⊢
   by_cases h2 : 4611686018427387904 - amtK [] < (inputsR X [] t n me).1
   ·rw [if_pos h2] at h; simp at h
   ·rw [if_neg h2]
 obtain ⟨h1, h2, h3⟩ := inputs_ok hin
 obtain ⟨h4, h5⟩ := sums_sum _ _ _ (fun k hk => hereI_lt hk) h3
 have hrng := sumsR_rng (X := X) (Y := []) (ins := t.ins) (hereI t n me) 0 (by omega) (by omega)
 rw [h3] at hrng
 have hk16 := hereI_len t n me
 obtain ⟨g1, g2, -, g4⟩ := locks_all hg (id := tidB t) (twice_nd h1) (hereI t n me) X [] ⟨by simp [coinsOf], by simp⟩ (placesI_nd _ _) (fun k hk => hereI_lt hk) (by simp; omega) h5
 rw [hE]
 obtain ⟨ra, hra⟩ : ∃ q, q = (inputsR X [] t n me).1 := ⟨_, rfl⟩
 rw [← hra] at h4 hrng ⊢
 obtain ⟨X1, hX1⟩ : ∃ q, q = (locksR (tidB t) t.ins (hereI t n me) X []).1 := ⟨_, rfl⟩
 obtain ⟨Y1, hY1⟩ : ∃ q, q = (locksR (tidB t) t.ins (hereI t n me) X []).2 := ⟨_, rfl⟩
 rw [← hX1, ← hY1] at g1
 rw [← hY1] at g2 g4
 rw [show locksR (tidB t) t.ins (hereI t n me) X [] = (X1, Y1) from Prod.ext hX1.symm hY1.symm]
 simp only
 have ha := g1.amt
 have hmx := hg.self.max
 have hX1n := amtC_nn (l := X1) (fun e he => hg.self.okX e (g1.mem he))
 have hY1n : 0 ≤ amtK Y1 := by
  rw [← amt_of]
  exact amtC_nn (fun e he => hg.self.okX e (g1.perm.mem_iff.2 (List.mem_append_right _ he)))
 have hamt : amtK Y1 = amts t.ins (hereI t n me) := by rw [g2]; simp [amtK]
 have hsum : amtK Y1 = ra := by
  rw [Int.zero_add, w64_eq, w64_eq] at h4
  try simp only at hrng
  omega
 have hheld : heldK Y1 (tidB t) = Y1 := List.filter_eq_self.2 (fun e he => by simpa using g1.own e he)
 have hrest : restK Y1 (tidB t) = [] := List.filter_eq_nil_iff.2 (fun e he => by simpa using g1.own e he)
 have hne : Y1 ≠ [] := by
  intro hy
  cases hh : hereI t n me with
  | nil => exact h2 hh
  | cons k r =>
   have hk : k < t.ins.length := hereI_lt (show k ∈ hereI t n me by rw [hh]; simp)
   have := g4 k (by rw [hh]; simp) _ (List.getElem?_eq_getElem hk)
   rw [hy] at this; simp [lookL] at this
 obtain ⟨b1, b2⟩ := backs_all hg Y1 X1 g1.perm
 have hfree : freeR Y1 (tidB t) = ra := by
  unfold freeR
  rw [hheld, sumW_eq _ _ (by omega) (by omega), Int.zero_add]
  show w64 (amtK Y1) = ra
  rw [hsum, w64_eq]; (try simp only at hrng); omega
 have hB : backR X1 Y1 (tidB t) = (((backsR Y1 X1).1, []), ra, 0) := by
  unfold backR
  rw [hheld, if_neg hne, if_neg (fun hh => hh b1), hrest, hfree]
 refine ⟨h1, hsum, by omega, ?_, ?_, by rw [hB], by rw [hB]; exact b2, by rw [hB]⟩
 ·show ((heldK Y1 (tidB t)).map (·.1)).length = Y1.length
  rw [hheld, List.length_map]
 ·unfold inputsR
  rw [if_neg (by omega), if_neg h2]
  cases hh : hereI t n me with
  | nil => exact absurd hh h2
  | cons k r =>
   have hk : k < t.ins.length := hereI_lt (show k ∈ hereI t n me by rw [hh]; simp)
   have hi := List.getElem?_eq_getElem hk
   have hl := g4 k (by rw [hh]; simp) _ hi
   have he : inputE X1 Y1 t.ins[k] = 14 := by unfold inputE; rw [if_pos hl]
   simp only [sumsR, hi, he]
   simp
theorem lock_same {X : CoinsL} {Y : LocksL} {t : Txn} {n me : Int} (h : (lockR X Y t n me).2.2 ≠ 0) : (lockR X Y t n me).1 = (X, Y) := by
 unfold lockR at *
 split
 ·rfl
 ·rename_i h1
  rw [if_neg h1] at h
  split
  ·rfl
  ·rename_i h2
   rw [if_neg h2] at h
   split
   ·rfl
   ·rename_i h3
    rw [if_neg h3] at h
    exact absurd rfl h
theorem RelC.other {X X2 L : CoinsL} {s : Int} (h : RelC X2 L s) (hp : X.Perm X2) (hs : SortC X) : RelC X L s := ⟨hp.trans h.perm, hs, h.ok, h.sum, h.max, h.len, h.ix⟩
open Go.RowKit
def KRq (K0 : Nat → Prop) (z1 z2 : Nat) : Nat → Prop := fun j => K0 j ∨ (z1 ≤ j ∧ j < z2)
def KSq (K0 : Nat → Prop) (z1 z2 z3 z4 : Nat) : Nat → Prop := fun j => KRq K0 z1 z2 j ∨ (z3 ≤ j ∧ j < z4)
theorem PenAt.ltK {w : World} {K : Nat → Prop} {g : Nat} {xs : List UInt8} (h : PenAt w K g xs) : ∀ k, K k → k < w.heap.size := by
 obtain ⟨A, c, h1, h2, h3, h4⟩ := h
 exact fun k hk => (h3 k hk).1
theorem cputq_any (g b gp : Nat) (X L : CoinsL) (s : Int) (K0 : Nat → Prop) (w : World) (hlow : ∀ j, j < gp → K0 j) (h : CoinsAt w g b L s) (hr : RelC X L s) (hp : PenAt w K0 gp []) (hg : g < gp) (hb : b < gp) :
  Calls Tryz.prog 47 #[.pointer (some ⟨g, 0, none⟩), .pointer (some ⟨gp, 0, none⟩)] w fun e w' => e = .returned (.tuple #[]) ∧ PenAt w' K0 gp (bytesC X) ∧ Kept K0 w w' := by
 obtain ⟨n, hn⟩ : ∃ n, n = L.length := ⟨_, rfl⟩
 have hn256 : n ≤ 256 := by rw [hn]; exact hr.len
 have hXn : X.length = n := by rw [hr.lenX, hn]
 have HPT := kp (show bytesC X = numB n ++ X.flatMap putAt by unfold bytesC; rw [hXn])
 have HR := kp hr; have HP := kp hp; have HC := kp h
 have HGB := kp (show K0 g ∧ K0 b from ⟨hlow g hg, hlow b hb⟩)
 have e0 : ∀ es : Array MapEntry, kvs es = encC L → es.size = n := fun es h5 => by rw [← kvs_length, h5]; simp [encC, hn]
 obtain ⟨es0, clock0, h3, h4, h5⟩ := h.map
 have e1 := e0 es0 h5
 have hl := fun ty => run_len_map w 88 ty b es0 clock0 Tryz.underlying88 h3
 simp only [e1] at hl
 have c1 : w.cell? ⟨g, 0, none⟩ = some (.map (some b)) := h.blk.at_ rfl
 have HNE := kp hn
 clear h hr hp h3 h4 h5 e0 e1 hn
 have q1 := conv_u64' (n := n) (by omega)
 obtain ⟨out, hout⟩ : ∃ q, q = bytesC X := ⟨_, rfl⟩
 rw [← hout] at HPT ⊢
 clear hout
 go_enter Tryz.func47, Tryz.ntmps47
 go_wp2_with fail
 refine (num_any gp n K0 [] _ HP.out (by simp) (by omega)).mono ?_
 rintro e w1 ⟨rfl, hp_, hk_⟩
 have HP1 := kp (show PenAt w1 K0 gp (numB n) from hp_)
 have HK1 := kp hk_
 have HC1 := kp (HC.out.keptK hk_ HGB.out.1 HGB.out.2)
 clear hp_ hk_ HP HC hl c1 q1
 have HALL := kp (call_any g b L s w1 HC1.out (by rw [← HNE.out]; omega))
 go_wp2_with fail
 refine HALL.out.mono ?_
 rintro e w2 ⟨v, ks, rfl, hperm, ⟨ss, hss⟩, hrow, hb2⟩
 have hkx := HR.out.all hperm hss
 have hkl : ks.length = n := by have := congrArg List.length hkx; rw [List.length_map, List.length_map, hXn] at this; exact this
 obtain ⟨A, c, rfl⟩ := own_slice hrow
 rw [hkl] at hrow
 have HKX := kp hkx
 obtain ⟨z1, hz1⟩ : ∃ z, z = w1.heap.size := ⟨_, rfl⟩
 obtain ⟨z2, hz2⟩ : ∃ z, z = w2.heap.size := ⟨_, rfl⟩
 rw [← hz1] at hrow
 have HV := kp (show OwnP w2 z1 A n c ks from hrow)
 have HVB := kp (show ∀ q, A.map Addr.block = some q → KRq K0 z1 z2 q from fun q hq => .inr ⟨own_from hrow q hq, by rw [hz2]; exact own_lt hrow q hq⟩)
 have HGZ := kp (show gp < z1 by rw [hz1]; exact HP1.out.lt)
 have HP2 := kp (show PenAt w2 (KRq K0 z1 z2) gp (numB n) from HP1.out.more hb2 (fun j hj => by
  rcases hj with h | h
  ·exact .inl h
  ·exact .inr (by rw [← hz1, ← hz2]; exact h)))
 have HK2 := kp (show Kept K0 w w2 from HK1.out.trans (Kept.of_grow hb2 (fun j hj => HP1.out.ltK j hj)))
 have HKLT := kp (show ∀ j, K0 j → j < z1 from fun j hj => by rw [hz1]; exact HP1.out.ltK j hj)
 have HC2 := kp (HC1.out.call hb2)
 have HZ2 := kp (show z2 = w2.heap.size from hz2)
 have HZ12 := kp (show z1 ≤ z2 by rw [hz1, hz2]; exact hb2.size)
 rw [hkl]
 clear hperm hss hrow hb2 hkx hkl hz1 hz2 HP1 HK1 HC1 HALL
 have HQ0 := kp (show numB n = numB n ++ (X.take 0).flatMap putAt by simp)
 have HKQ0 := kp (Kept.refl (KRq K0 z1 z2) w2)
 go_wp2_with fail
 go_loopw [18] (fun iv wr => ∃ k : Nat, k ≤ n ∧ iv = .int .i64 k ∧ Hid (∃ acc : List UInt8, PenAt wr (KRq K0 z1 z2) gp acc ∧ acc.length ≤ 9 + k * 82 ∧ acc = numB n ++ (X.take k).flatMap putAt ∧ Kept (KRq K0 z1 z2) w2 wr)) (fun iv _ => n - (intOf iv).toNat)
 case atStart => exact ⟨0, by omega, rfl, kp ⟨numB n, HP2.out, by have := numB_le (n := n) (by omega); omega, HQ0.out, HKQ0.out⟩⟩
 case round =>
  obtain ⟨k, hk, rfl, hI⟩ := hrel
  clear HP2 HQ0 HKQ0
  obtain ⟨acc, hpn, hal, hac, hkq⟩ := hI.out
  have HP := kp hpn; have HAC := kp hac; have HKQ := kp hkq
  clear hI hpn hac hkq
  rename World => w_
  by_cases hlt : k < n
  ·obtain ⟨x, hx⟩ : ∃ x, ks[k]? = some x := ⟨_, List.getElem?_eq_getElem (by have := HV.out.len; omega)⟩
   obtain ⟨p, hp⟩ : ∃ p, X[k]? = some p := ⟨_, List.getElem?_eq_getElem (by omega)⟩
   have hxp : x.1 = p.1 := by
    have h1 := congrArg (fun l => l[k]?) HKX.out
    simp only [List.getElem?_map, hx, hp, Option.map_some] at h1
    exact Option.some.inj h1
   have hmem := List.mem_of_getElem? hp
   have hok := HR.out.okX p hmem
   have HSN := kp (fm_snocR putAt hp)
   have hix := HR.out.ixX p hmem
   have hlk : lookC L p.1 = some p.2 := lookC_eq HR.out.ok.2 (HR.out.perm.mem_iff.1 hmem)
   obtain ⟨ix, hix1, hixl, hix2⟩ := natI (m := 15) hix.1 hix.2
   obtain ⟨am, ham, haml, ham2⟩ := natU hok.2.2.1 hok.2.2.2
   obtain ⟨tx, htx⟩ : ∃ q, q = p.1.1 := ⟨_, rfl⟩
   obtain ⟨ow, how⟩ : ∃ q, q = p.2.1 := ⟨_, rfl⟩
   have HPI := kp (show putAt p = tx ++ numB ix ++ ow ++ numB am by unfold putAt; rw [hix2, ham2, ← htx, ← how])
   have HDT := kp (show Dig (tx.map B) tx from ⟨rfl, by rw [htx]; exact hok.1.1⟩)
   have HDO := kp (show Dig (ow.map B) ow from ⟨rfl, by rw [how]; exact hok.2.1⟩)
   have HPC := kp (ptV_cl hok.1); have HCC := kp (coinV_cl hok.2)
   have HE32 := kp (show (ptV p.1)[32]? = some (.int .i64 (ix : Int)) by rw [ptV_ix hok.1.1, hix1])
   have HC32 := kp (show (coinV p.2)[32]? = some (.int .u64 (am : Int)) by rw [coinV_amt hok.2, ham])
   have HET := kp (show ∀ j u, (tx.map B)[j]? = some u → (ptV p.1)[0 + j]? = some u from fun j u hu => by
    rw [Nat.zero_add]; unfold ptV; rw [← htx, List.getElem?_append_left (List.getElem?_eq_some_iff.1 hu).1]; exact hu)
   have HEO := kp (show ∀ j u, (ow.map B)[j]? = some u → (coinV p.2)[0 + j]? = some u from fun j u hu => by
    rw [Nat.zero_add]; unfold coinV; rw [← how, List.getElem?_append_left (List.getElem?_eq_some_iff.1 hu).1]; exact hu)
   have HLK := kp (show ∀ w', CoinsAt w' g b L s → (Instr.lookup 88 (.map (some b)) (.agg (ptV p.1).toArray) false).run Tryz.prog w' = .ok (.agg (coinV p.2).toArray) w' from fun w' h' => by
    obtain ⟨c', _, e2, h2⟩ := h'.look0 hok.1
    rw [hlk] at e2
    have : c' = p.2 := e2
    rw [this] at h2
    exact h2)
   obtain ⟨g0, cur, hA, _, _, _, _, hbk, _, _⟩ := HV.out.form (by omega)
   subst hA
   have HMC := kp (show ∀ j u, (ptV p.1)[j]? = some u → w_.cell? ⟨g0, k * 33 + j, none⟩ = some u from fun j u hu => by
    have h1 := HV.out.at_ hx j u (by unfold encPt; rw [hxp]; exact hu)
    rw [hbk.cell] at h1
    exact (HKQ.out.blk hbk (HVB.out g0 rfl)).at_ h1)
   obtain ⟨es, hes⟩ : ∃ q, q = ptV p.1 := ⟨_, rfl⟩
   obtain ⟨cs, hcs⟩ : ∃ q, q = coinV p.2 := ⟨_, rfl⟩
   rw [← hes] at HPC HE32 HET HLK HMC
   rw [← hcs] at HCC HC32 HEO HLK
   obtain ⟨tb, htb⟩ : ∃ q, q = tx.map B := ⟨_, rfl⟩
   rw [← htb] at HDT HET
   obtain ⟨ob, hob⟩ : ∃ q, q = ow.map B := ⟨_, rfl⟩
   rw [← hob] at HDO HEO
   clear hx hp hxp hmem hok hix hlk hix1 hix2 ham ham2 htx how hes hcs htb hob hbk
   have hlix := numB_le (n := ix) (by omega); have hlam := numB_le (n := am) (by omega)
   have htl : tx.length = 32 := HDT.out.2
   have hol : ow.length = 32 := HDO.out.2
   have HCW := kp (show CoinsAt w_ g b L s from HC2.out.keptK HKQ.out (.inl (hlow g hg)) (.inl (hlow b hb)))
   have hwz : z2 ≤ w_.heap.size := by rw [HZ2.out]; exact HKQ.out.size
   have HWZ := kp hwz
   obtain ⟨wq, hwq⟩ : ∃ q, q = w_ := ⟨_, rfl⟩
   have HB := kp (show Below wq.heap.size wq w_ by rw [hwq]; exact Below.refl _ _)
   rw [← hwq] at HP HKQ HWZ
   clear hwq hwz
   go_wp2_with (first | (with_reducible refine wlm 21 row_point HMC.out HPC.out.len ?_) | (with_reducible refine wpl_alloc (o := ⟨some 5, _, _, _, _, _⟩) rfl rfl zero_point ?_))
   intro w1_ hb1_ hbw1_ hsz1_
   have HB1_ := kp (at_mk hb1_ len_point)
   have HBW1_ := kp hbw1_
   have HZ1_ := kp hsz1_
   clear hb1_ hbw1_ hsz1_
   go_wp2_with (with_reducible refine wsb row_point HB1_.out.blk HB1_.out.len HPC.out.len HPC.out.one ?_)
   intro w2_ hb2_ hg2_ hsz2_
   have HG_ := kp HB.out.size
   have hb_ := var_grow HBW1_.out HZ1_.out hg2_
   have HX_ := kp (at_mk hb2_ HPC.out.len)
   clear hb2_ hg2_ hsz2_ HB1_ HBW1_ HZ1_
   replace HB := kp (HB.out.grow' hb_)
   replace HCW := kp (HCW.out.grow hb_)
   generalize hg_ : w_.heap.size = g5 at HX_ HG_ ⊢
   clear hg_
   have HE := HX_
   clear hb_ HX_
   clear w1_
   try clear w_
   rename World => w_
   have HE_g := HG_
   clear HG_
   clear HMC
   have HEG := kp (show wq.heap.size ≤ g5 ∧ g5 < w_.heap.size from ⟨HE_g.out, HE.out.lt⟩)
   obtain ⟨g6, hg6⟩ : ∃ q, q = w_.heap.size := ⟨_, rfl⟩
   go_wp2_with fail
   repeat' (first | (with_reducible refine wp_phase (id := 4) (newC w_ 77 (coinV noCoin) cs) [6, 7] [(0,2),(0,2),(0,2),(0,2),(0,2),(0,2),(0,0),(1,1)] (by kernel_rfl) (by kernel_rfl) ?_ ?_) | go_values | go_skip | go_guarded | go_step | go_upon | go_back)
   ·exact newC.start
   have HF := kp (show ∀ k w', newC w_ 77 (coinV noCoin) cs k w' → w'.cell? ⟨g, 0, none⟩ = some (.map (some b)) from fun k w' h => (HCW.out.call (newC.low k w' h)).blk.at_ rfl)
   have HL := kp (show ∀ k w', newC w_ 77 (coinV noCoin) cs k w' → (Instr.lookup 88 (.map (some b)) (.agg es.toArray) false).run Tryz.prog w' = .ok (.agg cs.toArray) w' from fun k w' h => HLK.out w' (HCW.out.call (newC.low k w' h)))
   have HX1 := kp (show ∀ k w', newC w_ 77 (coinV noCoin) cs k w' → Blk w' g5 69 es from fun k w' h => HE.out.blk.call (newC.low k w' h))
   refine ph_value rfl (by first | rfl | go_simp) (fun k_ _ _ w_ hC_ => by first | (go_simp; rfl) | (go_simp; done) | rfl) (fun K hK => ?_)
   go_simp
   refine hK _ ?_
   clear hK K
   refine ph_value rfl (by first | rfl | go_simp) (fun k_ _ _ w_ hC_ => by first | (go_simp; rfl) | (go_simp; done) | rfl) (fun K hK => ?_)
   go_simp
   refine hK _ ?_
   clear hK K
   refine ph_value rfl (by first | rfl | go_simp) (fun k_ _ _ w_ hC_ => by first | (go_simp; rfl) | (go_simp; done) | rfl) (fun K hK => ?_)
   go_simp
   refine hK _ ?_
   clear hK K
   refine ph_value rfl (by first | rfl | go_simp) (fun k_ _ _ w_ hC_ => by have c1 := HF.out _ _ hC_; first | (go_simp; rfl) | (go_simp; done) | rfl) (fun K hK => ?_)
   go_simp
   refine hK _ ?_
   clear hK K
   refine ph_load rfl rfl rfl row_point (fun k _ _ w h => HX1.out k w h) rfl HPC.out.len ?_
   (intro K hK; go_simp; refine hK _ ?_; clear hK K)
   refine ph_value rfl (by first | rfl | go_simp) (fun k_ _ _ w_ hC_ => by have c1 := HL.out _ _ hC_; first | (go_simp; rfl) | (go_simp; done) | rfl) (fun K hK => ?_)
   go_simp
   refine hK _ ?_
   clear hK K
   refine ph_alloc 0 rfl rfl rfl rfl rfl zero_coin newC.lay ?_
   (intro K hK; go_simp; refine hK _ ?_; clear hK K)
   refine ph_store 1 rfl rfl rfl rfl rfl row_coin rfl rfl HCC.out.len HCC.out.one (newC.put (coinV_length noCoin_ok)) ?_
   (intro K hK; go_simp; refine hK _ ?_; clear hK K)
   refine ph_nil ?_
   intro w3 ⟨hl3, hs3, hx3⟩
   rw [← hg6] at hs3 hx3 ⊢
   replace HE := kp (HE.out.grow hl3)
   have HX := kp (show At w3 g6 77 33 cs from at_mk hx3 HCC.out.len)
   replace HB := kp (HB.out.grow' hl3)
   obtain ⟨z3, hz3⟩ : ∃ q, q = wq.heap.size := ⟨_, rfl⟩
   obtain ⟨z4, hz4⟩ : ∃ q, q = w3.heap.size := ⟨_, rfl⟩
   have HKE := kp (show KSq K0 z1 z2 z3 z4 g5 ∧ KSq K0 z1 z2 z3 z4 g6 by
    have h1 := HEG.out
    refine ⟨.inr ⟨by rw [hz3]; exact h1.1, by rw [hz4]; omega⟩, .inr ⟨by rw [hz3, hg6]; omega, by rw [hz4]; omega⟩⟩)
   have HPN := kp (show PenAt w3 (KSq K0 z1 z2 z3 z4) gp acc from HP.out.more HB.out (fun j hj => by
    rcases hj with h | h
    ·exact .inl h
    ·exact .inr (by rw [← hz3, ← hz4]; exact h)))
   have HKN := kp (show Kept (KRq K0 z1 z2) w2 w3 from HKQ.out.trans (Kept.of_grow HB.out (fun j hj => by
    have h1 := HWZ.out; have h2 := HGZ.out; have h3 := HZ12.out
    rcases hj with h | h
    ·have := HKLT.out j h; omega
    ·omega)))
   clear hl3 hs3 hx3 HF HL HX1 HCW HB HP HKQ HEG hg6 hz3 hz4 HWZ HE_g HLK
   try clear w_
   try clear wq
   rename World => w_
   have HMT := kp (show ∀ j u, tb[j]? = some u → w_.cell? ⟨g5, 0 + j, none⟩ = some u from fun j u hu => HE.out.blk.at_ (HET.out j u hu))
   go_wp2_with (with_reducible refine wlm 30 row_idk HMT.out HDT.out.len ?_)
   clear HMT
   go_wp2_with fail
   refine (pid_any gp (KSq K0 z1 z2 z3 z4) acc HDT.out _ HPN.out (by omega)).mono ?_
   rintro e w2_ ⟨rfl, hp_, hk_⟩
   replace HPN := kp hp_
   replace HKN := kp (HKN.out.trans (hk_.mono (fun j hj => .inl hj)))
   replace HE := kp (at_mk (hk_.blk HE.out.blk HKE.out.1) HE.out.len)
   replace HX := kp (at_mk (hk_.blk HX.out.blk HKE.out.2) HX.out.len)
   clear hp_ hk_
   try clear w_
   rename World => w_
   have c1 := HE.out.blk.at_ HE32.out
   have q1 := conv_u64' (n := ix) (by omega)
   go_wp2_with fail
   refine (num_any gp ix (KSq K0 z1 z2 z3 z4) (acc ++ tx) _ HPN.out (by clear q1; rw [List.length_append]; omega) (by omega)).mono ?_
   rintro e w2_ ⟨rfl, hp_, hk_⟩
   replace HPN := kp hp_
   replace HKN := kp (HKN.out.trans (hk_.mono (fun j hj => .inl hj)))
   replace HE := kp (at_mk (hk_.blk HE.out.blk HKE.out.1) HE.out.len)
   replace HX := kp (at_mk (hk_.blk HX.out.blk HKE.out.2) HX.out.len)
   clear hp_ hk_
   try clear w_
   rename World => w_
   clear c1 q1
   have HMT := kp (show ∀ j u, ob[j]? = some u → w_.cell? ⟨g6, 0 + j, none⟩ = some u from fun j u hu => HX.out.blk.at_ (HEO.out j u hu))
   go_wp2_with (with_reducible refine wlm 39 row_idk HMT.out HDO.out.len ?_)
   clear HMT
   go_wp2_with fail
   refine (pid_any gp (KSq K0 z1 z2 z3 z4) (acc ++ tx ++ numB ix) HDO.out _ HPN.out (by simp only [List.length_append]; omega)).mono ?_
   rintro e w2_ ⟨rfl, hp_, hk_⟩
   replace HPN := kp hp_
   replace HKN := kp (HKN.out.trans (hk_.mono (fun j hj => .inl hj)))
   replace HE := kp (at_mk (hk_.blk HE.out.blk HKE.out.1) HE.out.len)
   replace HX := kp (at_mk (hk_.blk HX.out.blk HKE.out.2) HX.out.len)
   clear hp_ hk_
   try clear w_
   rename World => w_
   have c1 := HX.out.blk.at_ HC32.out
   go_wp2_with fail
   refine (num_any gp am (KSq K0 z1 z2 z3 z4) (acc ++ tx ++ numB ix ++ ow) _ HPN.out (by simp only [List.length_append]; omega) (by omega)).mono ?_
   rintro e w2_ ⟨rfl, hp_, hk_⟩
   replace HPN := kp hp_
   replace HKN := kp (HKN.out.trans (hk_.mono (fun j hj => .inl hj)))
   replace HE := kp (at_mk (hk_.blk HE.out.blk HKE.out.1) HE.out.len)
   replace HX := kp (at_mk (hk_.blk HX.out.blk HKE.out.2) HX.out.len)
   clear hp_ hk_
   try clear w_
   rename World => w_
   clear c1
   have HREL := kp (show ∃ acc : List UInt8, PenAt w_ (KRq K0 z1 z2) gp acc ∧ acc.length ≤ 9 + (k + 1) * 82 ∧ acc = numB n ++ (X.take (k + 1)).flatMap putAt ∧ Kept (KRq K0 z1 z2) w2 w_ from ⟨acc ++ tx ++ numB ix ++ ow ++ numB am, HPN.out.less (fun j hj => .inl hj), by simp only [List.length_append]; omega, by rw [HSN.out, HPI.out, HAC.out]; simp only [List.append_assoc], HKN.out⟩)
   clear HPN HKN HE HX hlix hlam htl hol
   have v1 : IntKind.i64.wrap ((k : Int) + 1) = (k : Int) + 1 := IntWalk.i64_in _ (by omega)
   go_wp2_with fail
   go_roundw
   all_goals clear v1
   case rel => exact ⟨k + 1, by omega, by go_num, HREL⟩
   case measure => simp [intOf]; omega
  ·obtain rfl : k = n := by omega
   have HAE := kp (show acc = out by have h := HAC.out; rw [List.take_of_length_le (by omega)] at h; rw [HPT.out]; exact h)
   have HEND := kp (show PenAt w_ K0 gp out ∧ Kept K0 w w_ from ⟨by rw [← HAE.out]; exact HP.out.less (fun j hj => .inl hj), HK2.out.trans (HKQ.out.mono (fun j hj => .inl hj))⟩)
   go_wp2_with fail
   refine bodyPost_end (results_none rfl _ _ _) rfl ?_
   exact ⟨rfl, HEND.out⟩
end Go.Proofs.YtnnjjbkdjkjnpaaGreatDoor

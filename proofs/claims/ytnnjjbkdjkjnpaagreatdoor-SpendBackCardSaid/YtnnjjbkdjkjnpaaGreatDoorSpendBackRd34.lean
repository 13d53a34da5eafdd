/- States that the laws begin with, in plain words. -/
import Derived.Test.YtnnjjbkdjkjnpaaGreatDoorSpendBackRd33
set_option linter.unusedSimpArgs false
set_option linter.unusedVariables false
set_option maxRecDepth 100000
set_option maxHeartbeats 16000000
namespace Go.Proofs.YtnnjjbkdjkjnpaaGreatDoor
open Go.RowKit Go.Maps Go.Sort Go.Shelf
def sttC (l : List HeldV) : CoinsL := l.foldl (fun X h => (rputC X h.1 h.2.2).1) []
def sttK (l : List HeldV) : LocksL := l.foldl (fun Y h => (rputK Y h.1 (h.2.2, h.2.1)).1) []
theorem sttC_snoc (l : List HeldV) (h : HeldV) : sttC (l ++ [h]) = (rputC (sttC l) h.1 h.2.2).1 := by unfold sttC; rw [List.foldl_append]; rfl
theorem sttK_snoc (l : List HeldV) (h : HeldV) : sttK (l ++ [h]) = (rputK (sttK l) h.1 (h.2.2, h.2.1)).1 := by unfold sttK; rw [List.foldl_append]; rfl
def GoodC (X : CoinsL) : Prop := (∃ L s, RelC X L s) ∧ ∀ e ∈ X, e.2.2 ≠ 0
def GoodK (Y : LocksL) : Prop := (∃ L s, RelK Y L s) ∧ ∀ e ∈ Y, e.2.1.2 ≠ 0
theorem GoodC.nil : GoodC [] := ⟨⟨[], 0, RelC.nil⟩, by simp⟩
theorem GoodK.nil : GoodK [] := ⟨⟨[], 0, RelK.nil⟩, by simp⟩
theorem rputC_mem {X : CoinsL} {p : PtK} {c : CoinV} {e : PtK × CoinV} (h : e ∈ (rputC X p c).1) : e ∈ X ∨ (e = (p, c) ∧ c.2 ≠ 0) := by
 unfold rputC at h
 split at h
 ·exact .inl h
 ·rename_i hc
  split at h
  ·exact .inl h
  ·split at h
   ·exact .inl h
   ·split at h
    ·exact .inl h
    ·rcases List.mem_cons.1 ((insC_perm p c X).mem_iff.1 h) with h | h
     ·exact .inr ⟨h, by omega⟩
     ·exact .inl h
theorem rputK_mem {X : LocksL} {p : PtK} {c : LockV} {e : PtK × LockV} (h : e ∈ (rputK X p c).1) : e ∈ X ∨ (e = (p, c) ∧ c.1.2 ≠ 0) := by
 unfold rputK at h
 split at h
 ·exact .inl h
 ·rename_i hc
  split at h
  ·exact .inl h
  ·split at h
   ·exact .inl h
   ·split at h
    ·exact .inl h
    ·rcases List.mem_cons.1 ((insK_perm p c X).mem_iff.1 h) with h | h
     ·exact .inr ⟨h, by omega⟩
     ·exact .inl h
theorem GoodC.put {X : CoinsL} (h : GoodC X) {p : PtK} {c : CoinV} (hp : PtOK p) (hc : CoinOK c) : GoodC (rputC X p c).1 := by
 obtain ⟨⟨L, s, hr⟩, hz⟩ := h
 refine ⟨?_, fun e he => ?_⟩
 ·by_cases h0 : putR L s p c = 0
  ·exact ⟨_, _, hr.put hp hc h0⟩
  ·exact ⟨L, s, by rw [rputC_same (by rw [hr.code p c hc]; exact h0)]; exact hr⟩
 ·rcases rputC_mem he with h | ⟨rfl, h⟩
  ·exact hz e h
  ·exact h
theorem GoodK.put {X : LocksL} (h : GoodK X) {p : PtK} {c : LockV} (hp : PtOK p) (hc : LockOK c) : GoodK (rputK X p c).1 := by
 obtain ⟨⟨L, s, hr⟩, hz⟩ := h
 refine ⟨?_, fun e he => ?_⟩
 ·by_cases h0 : putQ L s p c.1 = 0
  ·exact ⟨_, _, hr.put hp hc h0⟩
  ·exact ⟨L, s, by rw [rputK_same (by rw [hr.code p c hc]; exact h0)]; exact hr⟩
 ·rcases rputK_mem he with h | ⟨rfl, h⟩
  ·exact hz e h
  ·exact h
theorem sttC_good : ∀ (l : List HeldV), (∀ a ∈ l, HeldOK a) → ∀ X, GoodC X → GoodC (l.foldl (fun X h => (rputC X h.1 h.2.2).1) X)
 | [], _, X, hX => hX
 | a :: l, h, X, hX => sttC_good l (fun x hx => h x (List.mem_cons_of_mem _ hx)) _ (hX.put (h a (List.mem_cons_self ..)).1 (h a (List.mem_cons_self ..)).2.2)
theorem sttK_good : ∀ (l : List HeldV), (∀ a ∈ l, HeldOK a) → ∀ X, GoodK X → GoodK (l.foldl (fun Y h => (rputK Y h.1 (h.2.2, h.2.1)).1) X)
 | [], _, X, hX => hX
 | a :: l, h, X, hX => sttK_good l (fun x hx => h x (List.mem_cons_of_mem _ hx)) _ (hX.put (h a (List.mem_cons_self ..)).1 ⟨(h a (List.mem_cons_self ..)).2.2, (h a (List.mem_cons_self ..)).2.1⟩)
theorem GoodC.self {X : CoinsL} (h : GoodC X) : RelC X X (amtC X) := by
 obtain ⟨⟨L, s, hr⟩, _⟩ := h
 refine ⟨.refl _, hr.sort, ⟨hr.okX, (hr.perm.map (·.1)).nodup_iff.2 hr.ok.2⟩, rfl, by rw [hr.amt]; exact hr.max, by rw [hr.lenX]; exact hr.len, hr.ixX⟩
theorem GoodK.self {X : LocksL} (h : GoodK X) : RelK X X (amtK X) := by
 obtain ⟨⟨L, s, hr⟩, _⟩ := h
 refine ⟨.refl _, hr.sort, ⟨hr.okX, (hr.perm.map (·.1)).nodup_iff.2 hr.ok.2⟩, rfl, by rw [hr.amt]; exact hr.max, by rw [hr.lenX]; exact hr.len, hr.ixX⟩
theorem amtC_ge {Y : CoinsL} (h : ∀ e ∈ Y, AtOKC e) {e : PtK × CoinV} (he : e ∈ Y) : e.2.2 ≤ amtC Y := by
 obtain ⟨P, Q, rfl⟩ := List.append_of_mem he
 have h1 := amtC_nn (l := P) (fun x hx => h x (by simp [hx])); have h2 := amtC_nn (l := Q) (fun x hx => h x (by simp [hx]))
 rw [amtC_app, show e :: Q = [e] ++ Q from rfl, amtC_app, amtC_one]; omega
theorem amtK_ge {Y : LocksL} (h : ∀ e ∈ Y, AtOKK e) {e : PtK × LockV} (he : e ∈ Y) : e.2.1.2 ≤ amtK Y := by
 obtain ⟨P, Q, rfl⟩ := List.append_of_mem he
 have h1 := amtK_nn (l := P) (fun x hx => h x (by simp [hx])); have h2 := amtK_nn (l := Q) (fun x hx => h x (by simp [hx]))
 rw [amtK_app, show e :: Q = [e] ++ Q from rfl, amtK_app, amtK_one]; omega
theorem take_le {X : CoinsL} (h : ∀ e ∈ X, AtOKC e) (k : Nat) : amtC (X.take k) ≤ amtC X := by
 have h1 := amtC_nn (l := X.drop k) (fun x hx => h x (List.mem_of_mem_drop hx))
 have h2 := amtC_app (X.take k) (X.drop k)
 rw [List.take_append_drop] at h2; omega
theorem takeK_le {X : LocksL} (h : ∀ e ∈ X, AtOKK e) (k : Nat) : amtK (X.take k) ≤ amtK X := by
 have h1 := amtK_nn (l := X.drop k) (fun x hx => h x (List.mem_of_mem_drop hx))
 have h2 := amtK_app (X.take k) (X.drop k)
 rw [List.take_append_drop] at h2; omega
theorem key_new {α β : Type} {X : List (α × β)} (hd : (X.map (·.1)).Nodup) {k : Nat} {e : α × β} (he : X[k]? = some e) : ∀ x ∈ X.take k, x.1 ≠ e.1 := by
 intro x hx hxe
 obtain ⟨j, hj⟩ := List.mem_iff_getElem?.1 hx
 have hjl := (List.getElem?_eq_some_iff.1 hj).1
 have hkk := (List.getElem?_eq_some_iff.1 he).1
 rw [List.length_take] at hjl
 have hj2 : X[j]? = some x := by rw [List.getElem?_take, if_pos (by omega)] at hj; exact hj
 have h1 : (X.map (·.1))[j]? = some e.1 := by rw [List.getElem?_map, hj2]; simp [hxe]
 have h2 : (X.map (·.1))[k]? = some e.1 := by rw [List.getElem?_map, he]; rfl
 have := (List.getElem?_inj (by rw [List.length_map]; omega) hd).1 (h1.trans h2.symm)
 omega
theorem madeC_step {X : CoinsL} (h : GoodC X) {k : Nat} {e : PtK × CoinV} (he : X[k]? = some e) :
  putR (X.take k) (amtC (X.take k)) e.1 e.2 = 0 ∧ (addE (amtC (X.take k)) e.2.2).1 = amtC (X.take (k + 1)) ∧ X.take k ++ [(e.1, e.2)] = X.take (k + 1) ∧ 0 ≤ amtC (X.take k) ∧ amtC (X.take k) ≤ 4611686018427387904 := by
 have hs := h.self
 have hm := List.mem_of_getElem? he
 have hix := hs.ix e hm
 have hz := h.2 e hm
 have hkk := (List.getElem?_eq_some_iff.1 he).1
 have hlen := hs.len
 have hlk : (lookC (X.take k) e.1).isSome = false := by rw [lookC_not (key_new hs.ok.2 he)]; rfl
 have hle := take_le hs.okX (k + 1)
 have hmx := hs.max
 have e1 : X.take (k + 1) = X.take k ++ [e] := take_snoc he
 have hamt : amtC (X.take (k + 1)) = amtC (X.take k) + e.2.2 := by rw [e1, amtC_app, amtC_one]
 have hge := amtC_ge hs.okX hm
 have hn := amtC_nn (l := X.take k) (fun x hx => hs.okX x (List.mem_of_mem_take hx))
 have hc := (hs.okX e hm).2.2
 have ha : (addE (amtC (X.take k)) e.2.2) = (amtC (X.take k) + e.2.2, 0) := by unfold addE; rw [if_pos (by omega)]
 refine ⟨?_, by rw [ha, hamt], by rw [e1], hn, by have := take_le hs.okX k; omega⟩
 unfold putR
 rw [if_neg (by omega), hlk, if_neg (by simp), if_neg (by rw [List.length_take]; omega), ha]
theorem madeK_step {X : LocksL} (h : GoodK X) {k : Nat} {e : PtK × LockV} (he : X[k]? = some e) :
  putQ (X.take k) (amtK (X.take k)) e.1 e.2.1 = 0 ∧ (addE (amtK (X.take k)) e.2.1.2).1 = amtK (X.take (k + 1)) ∧ X.take k ++ [(e.1, (e.2.1, e.2.2))] = X.take (k + 1) ∧ 0 ≤ amtK (X.take k) ∧ amtK (X.take k) ≤ 4611686018427387904 := by
 have hs := h.self
 have hm := List.mem_of_getElem? he
 have hix := hs.ix e hm
 have hz := h.2 e hm
 have hkk := (List.getElem?_eq_some_iff.1 he).1
 have hlen := hs.len
 have hlk : (lookL (X.take k) e.1).isSome = false := by rw [lookL_not (key_new hs.ok.2 he)]; rfl
 have hle := takeK_le hs.okX (k + 1)
 have hmx := hs.max
 have e1 : X.take (k + 1) = X.take k ++ [e] := take_snoc he
 have hamt : amtK (X.take (k + 1)) = amtK (X.take k) + e.2.1.2 := by rw [e1, amtK_app, amtK_one]
 have hge := amtK_ge hs.okX hm
 have hn := amtK_nn (l := X.take k) (fun x hx => hs.okX x (List.mem_of_mem_take hx))
 have hc := (hs.okX e hm).2.1.2
 have ha : (addE (amtK (X.take k)) e.2.1.2) = (amtK (X.take k) + e.2.1.2, 0) := by unfold addE; rw [if_pos (by omega)]
 refine ⟨?_, by rw [ha, hamt], by rw [e1], hn, by have := takeK_le hs.okX k; omega⟩
 unfold putQ
 rw [if_neg (by omega), hlk, if_neg (by simp), if_neg (by rw [List.length_take]; omega), ha]
open Go.RowKit Go.Shelf
def stV (A : Option Addr) (n c : Nat) (A2 : Option Addr) (n2 c2 : Nat) : List Value := [.slice A n c, .slice A2 n2 c2]
theorem stV_cl {A : Option Addr} {n c : Nat} {A2 : Option Addr} {n2 c2 : Nat} : Cl 2 (stV A n c A2 n2 c2) := ⟨rfl, fun u hu => by simp only [stV, List.mem_cons, List.not_mem_nil, or_false] at hu; rcases hu with rfl | rfl <;> rfl⟩
theorem row_state : RowT Tryz.prog 37 2 := ⟨_, Tryz.underlying37, by kernel_rfl, by kernel_rfl⟩
theorem zero_state : (Tryz.prog.info? 37).map (·.zero) = some (some (.agg (stV none 0 0 none 0 0).toArray)) := by kernel_rfl
theorem len_state : (stV none 0 0 none 0 0).length = 2 := rfl
theorem Sl.off2 {w w' : World} {B sz n g : Nat} {A : Option Addr} {xs ys : List Value} {T : TypeId} (h : Sl w B sz A n xs) (hz : 3 ≤ sz) (hg : At w g T 2 ys) (hw : w.grownBy w' (some g)) (hB : B ≤ w.heap.size) : Sl w' B sz A n xs := by
 refine ⟨h.1, fun hn => ?_⟩
 obtain ⟨q, off, hA, hq, hcell⟩ := h.2 hn
 have hl : 3 ≤ xs.length := by rw [h.1]; exact Nat.le_trans hz (Nat.le_mul_of_pos_left sz hn)
 have hne : q ≠ g := by
  rintro rfl
  obtain ⟨u, hu⟩ : ∃ u, xs[2]? = some u := ⟨_, List.getElem?_eq_getElem (by omega)⟩
  have h1 := hcell 2 u hu
  rw [hg.blk.cell (off + 2)] at h1
  have h3 : ys[off + 2]? = none := List.getElem?_eq_none (by rw [hg.len]; omega)
  rw [h3] at h1; cases h1
 exact ⟨q, off, hA, hq, fun j u hu => (World.cell?_of_block (w := w) (hw.block q (by omega) (fun e => hne (Option.some.inj e)))).trans (hcell j u hu)⟩
theorem RowC.off2 {w w' : World} {n g : Nat} {A : Option Addr} {l : CoinsL} {ys : List Value} {T : TypeId} (h : RowC w A n l) (hg : At w g T 2 ys) (hw : w.grownBy w' (some g)) : RowC w' A n l := ⟨(Sl.off2 h.1 (by omega) hg hw (Nat.le_refl _)).more hw.size, h.2⟩
theorem RowK.off2 {w w' : World} {n g : Nat} {A : Option Addr} {l : LocksL} {ys : List Value} {T : TypeId} (h : RowK w A n l) (hg : At w g T 2 ys) (hw : w.grownBy w' (some g)) : RowK w' A n l := ⟨(Sl.off2 h.1 (by omega) hg hw (Nat.le_refl _)).more hw.size, h.2⟩
theorem RowC.nil (w : World) : RowC w none 0 [] := ⟨Sl.nil, by simp, rfl⟩
theorem RowK.nil (w : World) : RowK w none 0 [] := ⟨Sl.nil, by simp, rfl⟩
theorem built_atKs (parts : List (Nat × Value)) : Tryz.prog.built 82 parts = Instr.fill (fun i => (#[(0, 33), (33, 32), (65, 33)] : Array (Nat × Nat))[i]?) (encAtK noAtK).toArray parts := by kernel_rfl
theorem bt_atKs {p : PtK} {id : List UInt8} {c : CoinV} (hp : PtOK p) (hi : id.length = 32) (hc : CoinOK c) : Tryz.prog.built 82 [(0, .agg (ptV p).toArray), (1, .agg (id.map B).toArray), (2, .agg (coinV c).toArray)] = some (encAtK (p, (c, id))).toArray := by
 have l1 := ptV_length hp.1; have l2 : (id.map B).length = 32 := by rw [List.length_map, hi]
 have l3 := coinV_length hc
 have z1 := ptV_length ptz_ok.1; have z2 : (noLock.2.map B).length = 32 := by rw [List.length_map, noLock_ok.2]
 have z3 := coinV_length noCoin_ok
 have h1 : splice (encAtK noAtK) 0 (ptV p) = ptV p ++ (noLock.2.map B ++ coinV noCoin) := splice_mid (pre := []) (old := ptV (pt 0)) (post := noLock.2.map B ++ coinV noCoin) rfl (by rw [z1, l1])
 have h2 : splice (ptV p ++ (noLock.2.map B ++ coinV noCoin)) 33 (id.map B) = (ptV p ++ id.map B) ++ (coinV noCoin ++ []) := by
  rw [splice_mid (pre := ptV p) (old := noLock.2.map B) (post := coinV noCoin) l1 (by rw [z2, l2])]; simp
 have h3 : splice ((ptV p ++ id.map B) ++ (coinV noCoin ++ [])) 65 (coinV c) = encAtK (p, (c, id)) := by
  rw [splice_mid (pre := ptV p ++ id.map B) (old := coinV noCoin) (post := []) (by rw [List.length_append, l1, l2]) (by rw [z3, l3])]
  unfold encAtK refV; simp
 rw [built_atKs, fill_cons (off := 0) (s := 33) (cs := ptV p) rfl rfl l1 (by rw [encAtK_len noAtK_ok]; omega), h1,
  fill_cons (off := 33) (s := 32) (cs := id.map B) rfl rfl l2 (by simp only [List.length_append, l1, z2, z3]; omega), h2,
  fill_cons (off := 65) (s := 33) (cs := coinV c) rfl rfl l3 (by simp only [List.length_append, List.length_nil, l1, l2, z3]; omega), h3, fill_nil]
theorem state_any {A : Option Addr} {n c : Nat} {A2 : Option Addr} {n2 c2 : Nat} {l l2 : List HeldV} (w : World) (h : HeldsAt w A n l) (h2 : HeldsAt w A2 n2 l2) (hn : n ≤ 100000) (hn2 : n2 ≤ 100000) :
  Calls Tryz.prog 10 #[.slice A n c, .slice A2 n2 c2] w fun e w' => ∃ A3 n3 c3 A4 n4 c4, e = .returned (.agg (stV A3 n3 c3 A4 n4 c4).toArray) ∧ RowC w' A3 n3 (sttC l) ∧ RowK w' A4 n4 (sttK l2) ∧ Grow w w' := by
 have HH := kp h; have HH2 := kp h2
 obtain ⟨w_, hw⟩ : ∃ x, x = w := ⟨_, rfl⟩
 have HB := kp (show Below w.heap.size w w_ by rw [hw]; exact Below.refl _ _)
 suffices H : Calls Tryz.prog 10 #[.slice A n c, .slice A2 n2 c2] w_ (fun e w' => ∃ A3 n3 c3 A4 n4 c4, e = .returned (.agg (stV A3 n3 c3 A4 n4 c4).toArray) ∧ RowC w' A3 n3 (sttC l) ∧ RowK w' A4 n4 (sttK l2) ∧ Grow w w') by rw [hw] at H; exact H
 clear hw h h2
 go_enter Tryz.func10, Tryz.ntmps10
 have HC0 := kp (stV_cl (A := none) (n := 0) (c := 0) (A2 := none) (n2 := 0) (c2 := 0))
 go_wp2_with (first | (with_reducible refine wpl_alloc (o := ⟨some 4, _, _, _, _, _⟩) rfl rfl zero_state ?_))
 intro w2_ hb2_ hb_ hsz2_
 have HX_ := kp (at_mk hb2_ len_state)
 clear hb2_ hsz2_
 have HG_ := kp HB.out.size
 replace HB := kp (HB.out.grow' hb_)
 generalize hg_ : w_.heap.size = g4 at HX_ HG_ ⊢
 clear hg_
 have HQ_g := HG_
 clear HG_
 have HQ := HX_
 clear hb_ HX_
 try clear w_
 rename World => w_
 go_wp2_with (first | (with_reducible refine wpl_alloc (o := ⟨some 5, _, _, _, _, _⟩) rfl rfl zero_state ?_))
 intro w2_ hb2_ hb_ hsz2_
 have HX_ := kp (at_mk hb2_ len_state)
 clear hb2_ hsz2_
 have HG_ := kp HB.out.size
 have HS_HQ := kp (Nat.ne_of_lt HQ.out.lt)
 replace HB := kp (HB.out.grow' hb_)
 replace HQ := kp (HQ.out.grow hb_)
 generalize hg_ : w_.heap.size = g5 at HX_ HG_ HS_HQ ⊢
 clear hg_
 have HS_g := HG_
 clear HG_
 have HS := HX_
 clear hb_ HX_
 try clear w_
 rename World => w_
 have HI0 := kp (show At w_ g5 37 2 (stV none 0 0 none 0 0) ∧ RowC w_ none 0 (sttC (l.take 0)) ∧ At w_ g4 37 2 (stV none 0 0 none 0 0) ∧ Below w.heap.size w w_ from ⟨HS.out, RowC.nil _, HQ.out, HB.out⟩)
 clear HB HQ HS
 go_wp2_with fail
 go_loopw [6] (fun iv wr => ∃ (k : Nat), k ≤ n ∧ iv = .int .i64 k ∧ Hid (∃ A3 m c3, At wr g5 37 2 (stV A3 m c3 none 0 0) ∧ RowC wr A3 m (sttC (l.take k)) ∧ At wr g4 37 2 (stV none 0 0 none 0 0) ∧ Below w.heap.size w wr)) (fun iv _ => n - (intOf iv).toNat)
 case atStart => exact ⟨0, Nat.zero_le _, rfl, kp ⟨none, 0, 0, HI0.out⟩⟩
 case round =>
  obtain ⟨k, hk, rfl, hI⟩ := hrel
  clear HI0
  obtain ⟨A3, m, c3, hs_, hr_, hq_, hb_⟩ := hI.out
  have HS := kp hs_; have HR := kp hr_; have HQ := kp hq_; have HB := kp hb_
  clear hI hs_ hr_ hq_ hb_
  rename World => w_
  by_cases hlt : k < n
  ·obtain ⟨b, off, a, rfl, hbl, ha, hcc, hok⟩ := HH.out.at_ hlt
   have HGD := kp (sttC_good (l.take k) (fun x hx => HH.out.2.2 x (List.mem_of_mem_take hx)) [] GoodC.nil)
   obtain ⟨⟨L, s, hr⟩, -⟩ := HGD.out
   have HSN := kp (show sttC (l.take (k + 1)) = (rputC (sttC (l.take k)) a.1 a.2.2).1 by rw [take_snoc ha, sttC_snoc])
   have HRP := kp (fun w' (h' : RowC w' A3 m (sttC (l.take k))) => rput19_any (c := c3) a.1 a.2.2 w' h' hok.1 hok.2.2 (by rw [← h'.2.2]; have := RelC.lenX hr; have := hr.len; unfold sttC at *; omega) (by have := RelC.amt hr; have := hr.max; unfold sttC at *; omega))
   unfold ptA coinA at HRP
   have HPC := kp (ptV_cl hok.1); have HVC := kp (coinV_cl hok.2.2)
   have HBL := kp hbl
   have HM1 := kp (fun w' (hb : Below w.heap.size w w') => show ∀ j u, (ptV a.1)[j]? = some u → w'.cell? ⟨b, off + k * 98 + j, none⟩ = some u from fun j u hu => bcell hb (hcc j u (heldV_pt hu)))
   have HM2 := kp (fun w' (hb : Below w.heap.size w w') => show ∀ j u, (coinV a.2.2)[j]? = some u → w'.cell? ⟨b, off + k * 98 + 65 + j, none⟩ = some u from fun j u hu => bcell hb (by have := hcc (65 + j) u (heldV_coin hok hu); rwa [← Nat.add_assoc] at this))
   obtain ⟨es, hes⟩ : ∃ q, q = ptV a.1 := ⟨_, rfl⟩
   obtain ⟨vs, hvs⟩ : ∃ q, q = coinV a.2.2 := ⟨_, rfl⟩
   obtain ⟨RS, hRS⟩ : ∃ q, q = rputC (sttC (l.take k)) a.1 a.2.2 := ⟨_, rfl⟩
   rw [← hes] at HPC HM1 HRP
   rw [← hvs] at HVC HM2 HRP
   rw [← hRS] at HSN HRP
   obtain ⟨Xk, hXk⟩ : ∃ q, q = sttC (l.take k) := ⟨_, rfl⟩
   rw [← hXk] at HR HRP
   clear hbl ha hcc hok hr HGD hes hvs hRS hXk
   obtain ⟨Xn, rc⟩ := RS
   go_wp2_with fail
   try go_wp2_with fail
   repeat' (first | (with_reducible refine wp_plan (id := 5) Grow [0,2,0,0,0,0,2,0,0,0,0,2,3,0,0,0,0,0] (.get 0 (.get 1 (.get 2 (.get 3 (.get 4 (.get 5 (.get 6 (.get 7 (.get 8 (.get 9 (.get 10 (.get 11 (.act 12 (.get 13 (.get 14 (.get 15 (.get 16 (.get 17 .done)))))))))))))))))) (by kernel_rfl) (by kernel_rfl) Grow.refl Grow.trans ?_) | go_values | go_skip | go_guarded | go_step | go_upon | go_back)
   intro w_ hd_
   have hb_ := hd_.grow
   replace HB := kp (HB.out.grow' hb_)
   replace HS := kp (HS.out.grow hb_)
   replace HR := kp (HR.out.grow hb_)
   replace HQ := kp (HQ.out.grow hb_)
   clear hb_ hd_
   replace HM1 := kp (HM1.out _ HB.out); replace HM2 := kp (HM2.out _ HB.out); replace HBL := kp (show b < w_.heap.size from Nat.lt_of_lt_of_le HBL.out HB.out.size)
   have c0 := HS.out.blk.at_ (i := 0) rfl
   repeat (first | (refine pl_calm rfl rfl (by first | exact wanted_none rfl | (go_simp; done) | rfl) (fun w_ => by first | (go_simp; rfl) | (go_simp; done) | rfl) (fun K hK => ?_); go_simp; refine hK _ _ ?_; clear hK K) | (refine pl_skip rfl (by first | (go_simp; done) | rfl) (fun K hK => ?_); go_simp; refine hK _ _ ?_; clear hK K) | (refine pl_skipa rfl (by first | (go_simp; done) | rfl) (fun K hK => ?_); go_simp; refine hK _ _ ?_; clear hK K) | (refine pl_load rfl rfl (by first | exact wanted_none rfl | (go_simp; done) | rfl) rfl (by first | rfl | (go_simp; rfl)) (by kernel_rfl) (by first | exact c0) (fun K hK => ?_); go_simp; refine hK _ _ ?_; clear hK K) | (refine pl_loadnow rfl rfl (by first | exact wanted_none rfl | (go_simp; done) | rfl) rfl (by first | rfl | (go_simp; rfl)) (by kernel_rfl) (by first | exact c0) (fun K hK => ?_); go_simp; refine hK _ _ ?_; clear hK K))
   refine pl_loadm rfl (by decide) (by exact wanted_none rfl) rfl row_point HM1.out HBL.out (by first | rfl | (go_simp; done) | rfl) HPC.out.len (fun K hK => ?_)
   go_simp
   refine hK _ _ ?_
   clear hK K
   repeat ((first | refine plc (fun K hK => ?_) | refine pl_skip rfl (by first | (go_simp; done) | rfl) (fun K hK => ?_) | refine pl_skipa rfl (by first | (go_simp; done) | rfl) (fun K hK => ?_)); go_simp; refine hK _ _ ?_; clear hK K)
   refine pl_loadm rfl (by decide) (by exact wanted_none rfl) rfl row_coin HM2.out HBL.out (by first | rfl | (go_simp; done) | rfl) HVC.out.len (fun K hK => ?_)
   go_simp
   refine hK _ _ ?_
   clear hK K
   repeat ((first | refine plc (fun K hK => ?_) | refine pl_skip rfl (by first | (go_simp; done) | rfl) (fun K hK => ?_) | refine pl_skipa rfl (by first | (go_simp; done) | rfl) (fun K hK => ?_)); go_simp; refine hK _ _ ?_; clear hK K)
   clear c0 HM1 HM2 HBL
   refine pl_act rfl (by first | exact wanted_none rfl | (go_simp; done) | rfl) (fun K hK => ?_)
   go_wp2_with fail
   refine (HRP.out w_ HR.out).mono ?_
   rintro e w2_ ⟨A9, m9, c9, rfl, hx9, hb_⟩
   have HX9 := kp hx9
   go_wp2_with fail
   refine hK _ _ (fun h => by cases h) ?_
   clear hK K hx9 HR
   replace HS := kp (HS.out.grow hb_); replace HQ := kp (HQ.out.grow hb_); replace HB := kp (HB.out.grow' hb_)
   clear hb_
   try clear w_
   rename World => w_
   repeat ((first | refine plc (fun K hK => ?_) | refine pl_skip rfl (by first | (go_simp; done) | rfl) (fun K hK => ?_) | refine pl_skipa rfl (by first | (go_simp; done) | rfl) (fun K hK => ?_)); go_simp; refine hK _ _ ?_; clear hK K)
   refine pl_done ?_
   go_wp2_with (first | (refine wpl_store1 (o := ⟨none, .store _ _ _, _, _, _, _⟩) rfl rfl HS.out.blk rfl rfl (by kernel_rfl) rfl rfl (by have := HS.out.len; omega) ?_))
   intro w2_ hb2_ hg2_ hsz2_
   have HX_ := kp (HX9.out.off2 HS.out hg2_)
   have HS_ := kp (show At w2_ g5 37 2 (stV A9 m9 c9 none 0 0) from ⟨hb2_, rfl⟩)
   have HQ_ := kp (At.off HQ.out hg2_ HS_HQ.out)
   have HB_ := kp (put_below HB.out HS_g.out hg2_)
   clear hb2_ hg2_ hsz2_ HX9 HS HQ HB
   go_wp2_with fail
   go_roundw
   case rel => exact ⟨k + 1, by omega, by go_num, kp ⟨A9, m9, c9, HS_.out, by rw [HSN.out]; exact HX_.out, HQ_.out, HB_.out⟩⟩
   case measure => simp [intOf]; omega
  ·obtain rfl : k = n := by omega
   have HRN := kp (show RowC w_ A3 m (sttC l) by have h := HR.out; rw [List.take_of_length_le (by have := HH.out.1; omega)] at h; exact h)
   have HI0 := kp (show At w_ g5 37 2 (stV A3 m c3 none 0 0) ∧ RowC w_ A3 m (sttC l) ∧ RowK w_ none 0 (sttK (l2.take 0)) ∧ At w_ g4 37 2 (stV none 0 0 none 0 0) ∧ Below w.heap.size w w_ from ⟨HS.out, HRN.out, RowK.nil _, HQ.out, HB.out⟩)
   clear HS HR HQ HB HRN
   go_wp2_with fail
   go_loopw [9] (fun iv wr => ∃ (k : Nat), k ≤ n2 ∧ iv = .int .i64 k ∧ Hid (∃ A4 m4 c4, At wr g5 37 2 (stV A3 m c3 A4 m4 c4) ∧ RowC wr A3 m (sttC l) ∧ RowK wr A4 m4 (sttK (l2.take k)) ∧ At wr g4 37 2 (stV none 0 0 none 0 0) ∧ Below w.heap.size w wr)) (fun iv _ => n2 - (intOf iv).toNat)
   case atStart => exact ⟨0, Nat.zero_le _, rfl, kp ⟨none, 0, 0, HI0.out⟩⟩
   case round =>
    obtain ⟨k2, hk2, rfl, hI⟩ := hrel
    clear HI0
    obtain ⟨A4, m4, c4, hs_, hr_, hr2_, hq_, hb_⟩ := hI.out
    have HS := kp hs_; have HR := kp hr_; have HR2 := kp hr2_; have HQ := kp hq_; have HB := kp hb_
    clear hI hs_ hr_ hr2_ hq_ hb_
    rename World => w_
    by_cases hlt2 : k2 < n2
    ·obtain ⟨b, off, a, rfl, hbl, ha, hcc, hok⟩ := HH2.out.at_ hlt2
     have HGD := kp (sttK_good (l2.take k2) (fun x hx => HH2.out.2.2 x (List.mem_of_mem_take hx)) [] GoodK.nil)
     obtain ⟨⟨L, s, hr⟩, -⟩ := HGD.out
     have HSN := kp (show sttK (l2.take (k2 + 1)) = (rputK (sttK (l2.take k2)) a.1 (a.2.2, a.2.1)).1 by rw [take_snoc ha, sttK_snoc])
     have HRP := kp (fun w' (h' : RowK w' A4 m4 (sttK (l2.take k2))) => rput21_any (c := c4) a.1 (a.2.2, a.2.1) w' h' hok.1 ⟨hok.2.2, hok.2.1⟩ (by rw [← h'.2.2]; have := RelK.lenX hr; have := hr.len; unfold sttK at *; omega) (by have := RelK.amt hr; have := hr.max; unfold sttK at *; omega))
     have BE := kp (bt_atKs hok.1 hok.2.1 hok.2.2)
     have HPC := kp (ptV_cl hok.1); have HVC := kp (coinV_cl hok.2.2); have HIC := kp (aidV_cl hok.2.1)
     have HBL := kp hbl
     have HM1 := kp (fun w' (hb : Below w.heap.size w w') => show ∀ j u, (ptV a.1)[j]? = some u → w'.cell? ⟨b, off + k2 * 98 + j, none⟩ = some u from fun j u hu => bcell hb (hcc j u (heldV_pt hu)))
     have HM3 := kp (fun w' (hb : Below w.heap.size w w') => show ∀ j u, (a.2.1.map B)[j]? = some u → w'.cell? ⟨b, off + k2 * 98 + 33 + j, none⟩ = some u from fun j u hu => bcell hb (by have := hcc (33 + j) u (heldV_id hok hu); rwa [← Nat.add_assoc] at this))
     have HM2 := kp (fun w' (hb : Below w.heap.size w w') => show ∀ j u, (coinV a.2.2)[j]? = some u → w'.cell? ⟨b, off + k2 * 98 + 65 + j, none⟩ = some u from fun j u hu => bcell hb (by have := hcc (65 + j) u (heldV_coin hok hu); rwa [← Nat.add_assoc] at this))
     obtain ⟨es, hes⟩ : ∃ q, q = ptV a.1 := ⟨_, rfl⟩
     obtain ⟨vs, hvs⟩ : ∃ q, q = coinV a.2.2 := ⟨_, rfl⟩
     obtain ⟨is, his⟩ : ∃ q, q = a.2.1.map B := ⟨_, rfl⟩
     obtain ⟨ats, hats⟩ : ∃ q, q = encAtK (a.1, (a.2.2, a.2.1)) := ⟨_, rfl⟩
     obtain ⟨RS, hRS⟩ : ∃ q, q = rputK (sttK (l2.take k2)) a.1 (a.2.2, a.2.1) := ⟨_, rfl⟩
     rw [← hats] at BE HRP
     rw [← hes] at HPC HM1 BE
     rw [← hvs] at HVC HM2 BE
     rw [← his] at HIC HM3 BE
     rw [← hRS] at HSN HRP
     obtain ⟨Xk, hXk⟩ : ∃ q, q = sttK (l2.take k2) := ⟨_, rfl⟩
     rw [← hXk] at HR2 HRP
     clear hbl ha hcc hok hr HGD hes hvs his hats hRS hXk
     obtain ⟨Xn, rc⟩ := RS
     go_wp2_with fail
     try go_wp2_with fail
     repeat' (first | (with_reducible refine wp_plan (id := 10) Grow [0,2,0,0,0,0,2,0,0,0,0,2,0,0,0,0,2,0,3,0,0,0,0,0] (.get 0 (.get 1 (.get 2 (.get 3 (.get 4 (.get 5 (.get 6 (.get 7 (.get 8 (.get 9 (.get 10 (.get 11 (.get 12 (.get 13 (.get 14 (.get 15 (.get 16 (.get 17 (.act 18 (.get 19 (.get 20 (.get 21 (.get 22 (.get 23 .done)))))))))))))))))))))))) (by kernel_rfl) (by kernel_rfl) Grow.refl Grow.trans ?_) | go_values | go_skip | go_guarded | go_step | go_upon | go_back)
     intro w_ hd_
     have hb_ := hd_.grow
     replace HB := kp (HB.out.grow' hb_)
     replace HS := kp (HS.out.grow hb_)
     replace HR := kp (HR.out.grow hb_)
     replace HR2 := kp (HR2.out.grow hb_)
     replace HQ := kp (HQ.out.grow hb_)
     clear hb_ hd_
     replace HM1 := kp (HM1.out _ HB.out); replace HM2 := kp (HM2.out _ HB.out); replace HM3 := kp (HM3.out _ HB.out); replace HBL := kp (show b < w_.heap.size from Nat.lt_of_lt_of_le HBL.out HB.out.size)
     have c0 := HS.out.blk.at_ (i := 1) rfl
     repeat (first | (refine pl_calm rfl rfl (by first | exact wanted_none rfl | (go_simp; done) | rfl) (fun w_ => by first | (go_simp; rfl) | (go_simp; done) | rfl) (fun K hK => ?_); go_simp; refine hK _ _ ?_; clear hK K) | (refine pl_skip rfl (by first | (go_simp; done) | rfl) (fun K hK => ?_); go_simp; refine hK _ _ ?_; clear hK K) | (refine pl_skipa rfl (by first | (go_simp; done) | rfl) (fun K hK => ?_); go_simp; refine hK _ _ ?_; clear hK K) | (refine pl_load rfl rfl (by first | exact wanted_none rfl | (go_simp; done) | rfl) rfl (by first | rfl | (go_simp; rfl)) (by kernel_rfl) (by first | exact c0) (fun K hK => ?_); go_simp; refine hK _ _ ?_; clear hK K) | (refine pl_loadnow rfl rfl (by first | exact wanted_none rfl | (go_simp; done) | rfl) rfl (by first | rfl | (go_simp; rfl)) (by kernel_rfl) (by first | exact c0) (fun K hK => ?_); go_simp; refine hK _ _ ?_; clear hK K))
     refine pl_loadm rfl (by decide) (by exact wanted_none rfl) rfl row_point HM1.out HBL.out (by first | rfl | (go_simp; done) | rfl) HPC.out.len (fun K hK => ?_)
     go_simp
     refine hK _ _ ?_
     clear hK K
     repeat ((first | refine plc (fun K hK => ?_) | refine pl_skip rfl (by first | (go_simp; done) | rfl) (fun K hK => ?_) | refine pl_skipa rfl (by first | (go_simp; done) | rfl) (fun K hK => ?_)); go_simp; refine hK _ _ ?_; clear hK K)
     refine pl_loadm rfl (by decide) (by exact wanted_none rfl) rfl row_idk HM3.out HBL.out (by first | rfl | (go_simp; done) | rfl) HIC.out.len (fun K hK => ?_)
     go_simp
     refine hK _ _ ?_
     clear hK K
     repeat ((first | refine plc (fun K hK => ?_) | refine pl_skip rfl (by first | (go_simp; done) | rfl) (fun K hK => ?_) | refine pl_skipa rfl (by first | (go_simp; done) | rfl) (fun K hK => ?_)); go_simp; refine hK _ _ ?_; clear hK K)
     refine pl_loadm rfl (by decide) (by exact wanted_none rfl) rfl row_coin HM2.out HBL.out (by first | rfl | (go_simp; done) | rfl) HVC.out.len (fun K hK => ?_)
     go_simp
     refine hK _ _ ?_
     clear hK K
     repeat ((first | refine plc (fun K hK => ?_) | refine pl_skip rfl (by first | (go_simp; done) | rfl) (fun K hK => ?_) | refine pl_skipa rfl (by first | (go_simp; done) | rfl) (fun K hK => ?_)); go_simp; refine hK _ _ ?_; clear hK K)
     refine pl_calm rfl rfl (by exact wanted_none rfl) (fun w_ => by exact exec_build rfl BE.out w_) (fun K hK => ?_)
     go_simp
     refine hK _ _ ?_
     clear hK K
     clear c0 HM1 HM2 HM3 HBL
     refine pl_act rfl (by first | exact wanted_none rfl | (go_simp; done) | rfl) (fun K hK => ?_)
     go_wp2_with fail
     refine (HRP.out w_ HR2.out).mono ?_
     rintro e w2_ ⟨A9, m9, c9, rfl, hx9, hb_⟩
     have HX9 := kp hx9
     go_wp2_with fail
     refine hK _ _ (fun h => by cases h) ?_
     clear hK K hx9 HR2
     replace HS := kp (HS.out.grow hb_); replace HR := kp (HR.out.grow hb_); replace HQ := kp (HQ.out.grow hb_); replace HB := kp (HB.out.grow' hb_)
     clear hb_
     try clear w_
     rename World => w_
     repeat ((first | refine plc (fun K hK => ?_) | refine pl_skip rfl (by first | (go_simp; done) | rfl) (fun K hK => ?_) | refine pl_skipa rfl (by first | (go_simp; done) | rfl) (fun K hK => ?_)); go_simp; refine hK _ _ ?_; clear hK K)
     refine pl_done ?_
     go_wp2_with (first | (refine wpl_store1 (o := ⟨none, .store _ _ _, _, _, _, _⟩) rfl rfl HS.out.blk rfl rfl (by kernel_rfl) rfl rfl (by have := HS.out.len; omega) ?_))
     intro w2_ hb2_ hg2_ hsz2_
     have HX_ := kp (HX9.out.off2 HS.out hg2_)
     have HR_ := kp (HR.out.off2 HS.out hg2_)
     have HS_ := kp (show At w2_ g5 37 2 (stV A3 m c3 A9 m9 c9) from ⟨hb2_, rfl⟩)
     have HQ_ := kp (At.off HQ.out hg2_ HS_HQ.out)
     have HB_ := kp (put_below HB.out HS_g.out hg2_)
     clear hb2_ hg2_ hsz2_ HX9 HS HQ HB HR
     go_wp2_with fail
     go_roundw
     case rel => exact ⟨k2 + 1, by omega, by go_num, kp ⟨A9, m9, c9, HS_.out, HR_.out, by rw [HSN.out]; exact HX_.out, HQ_.out, HB_.out⟩⟩
     case measure => simp [intOf]; omega
    ·obtain rfl : k2 = n2 := by omega
     have HRN := kp (show RowK w_ A4 m4 (sttK l2) by have h := HR2.out; rw [List.take_of_length_le (by have := HH2.out.1; omega)] at h; exact h)
     have HC1 := kp (stV_cl (A := A3) (n := m) (c := c3) (A2 := A4) (n2 := m4) (c2 := c4))
     go_wp2_with (first | (with_reducible refine wlb 66 row_state HS.out.blk HS.out.len ?_) | (with_reducible refine wsb row_state HQ.out.blk HQ.out.len HC1.out.len HC1.out.one ?_))
     intro w2_ hb2_ hg2_ hsz2_
     have HRF := kp (HR.out.off2 HQ.out hg2_); have HKF := kp (HRN.out.off2 HQ.out hg2_)
     have HB_ := kp (put_below HB.out HQ_g.out hg2_)
     have HQ_ := kp (at_mk hb2_ HC1.out.len)
     clear hb2_ hg2_ hsz2_
     go_wp2_with fail
     refine ret_cell rfl row_state HQ_.out.blk rfl HQ_.out.len rfl ?_
     exact ⟨A3, m, c3, A4, m4, c4, rfl, HRF.out, HKF.out, HB_.out⟩
theorem encAtK_c8 {e : PtK × LockV} (h : AtOKK e) {j : Nat} {u : Value} (hu : (coinV e.2.1)[j]? = some u) : (encAtK e)[65 + j]? = some u := by
 have h3 : (e.2.2.map B).length = 32 := by rw [List.length_map, h.2.2]
 have h4 : (refV e.2)[32 + j]? = some u := by
  unfold refV; rw [List.getElem?_append_right (by omega), h3, show 32 + j - 32 = j by omega]; exact hu
 have := encAtK_ref h h4
 rwa [show 33 + (32 + j) = 65 + j by omega] at this
theorem made_any {X : CoinsL} {Y : LocksL} {A : Option Addr} {n c : Nat} {A2 : Option Addr} {n2 c2 : Nat} (w : World) (hX : GoodC X) (hY : GoodK Y) (h : RowC w A n X) (h2 : RowK w A2 n2 Y) :
  Calls Tryz.prog 9 #[.agg (stV A n c A2 n2 c2).toArray] w fun e w' => ∃ g b g2 b2, e = .returned (.tuple #[.pointer (some ⟨g, 0, none⟩), .pointer (some ⟨g2, 0, none⟩)]) ∧ CoinsAt w' g b X (amtC X) ∧ LocksAt w' g2 b2 Y (amtK Y) ∧ (w.heap.size ≤ g ∧ w.heap.size ≤ b ∧ w.heap.size ≤ g2 ∧ w.heap.size ≤ b2) ∧ (g2 ∉ [g, b] ∧ b2 ∉ [g, b] ∧ g ∉ [g2, b2] ∧ b ∉ [g2, b2]) ∧ Grow w w' := by
 have HH := kp h; have HH2 := kp h2
 have HMC := kp (fun k e (he : X[k]? = some e) => madeC_step hX he)
 have HMK := kp (fun k e (he : Y[k]? = some e) => madeK_step hY he)
 have hn256 : n ≤ 256 := by rw [← h.2.2]; have := hX.self.len; exact this
 have hn64 : n2 ≤ 64 := by rw [← h2.2.2]; have := hY.self.len; exact this
 have HTC := kp (stV_cl (A := A) (n := n) (c := c) (A2 := A2) (n2 := n2) (c2 := c2))
 have HT0 := kp (show (stV A n c A2 n2 c2)[0]? = some (.slice A n c) ∧ (stV A n c A2 n2 c2)[1]? = some (.slice A2 n2 c2) from ⟨rfl, rfl⟩)
 obtain ⟨sv, hsv⟩ : ∃ q, q = stV A n c A2 n2 c2 := ⟨_, rfl⟩
 rw [← hsv] at HTC HT0 ⊢
 obtain ⟨w_, hw⟩ : ∃ x, x = w := ⟨_, rfl⟩
 have HB := kp (show Below w.heap.size w w_ by rw [hw]; exact Below.refl _ _)
 suffices H : Calls Tryz.prog 9 #[.agg sv.toArray] w_ (fun e w' => ∃ g b g2 b2, e = .returned (.tuple #[.pointer (some ⟨g, 0, none⟩), .pointer (some ⟨g2, 0, none⟩)]) ∧ CoinsAt w' g b X (amtC X) ∧ LocksAt w' g2 b2 Y (amtK Y) ∧ (w.heap.size ≤ g ∧ w.heap.size ≤ b ∧ w.heap.size ≤ g2 ∧ w.heap.size ≤ b2) ∧ (g2 ∉ [g, b] ∧ b2 ∉ [g, b] ∧ g ∉ [g2, b2] ∧ b ∉ [g2, b2]) ∧ Grow w w') by rw [hw] at H; exact H
 clear hw h h2 hX hY hsv
 go_enter Tryz.func9, Tryz.ntmps9
 go_wp2_with (first | (with_reducible refine wpl_box (o := ⟨some 1, _, _, _, _, _⟩) rfl rfl rfl ?_))
 intro w2_ hb2_ hb_ hsz2_
 have HX_ := kp (at_mk hb2_ HTC.out.len)
 clear hb2_ hsz2_
 have HG_ := kp HB.out.size
 replace HB := kp (HB.out.grow' hb_)
 generalize hg_ : w_.heap.size = g1 at HX_ HG_ ⊢
 clear hg_
 have HX_g := HG_
 clear HG_
 have HX := HX_
 clear hb_ HX_
 try clear w_
 rename World => w_
 go_wp2_with fail
 refine (new_any _).mono ?_
 rintro e w2_ ⟨g, b, rfl, hc, hg, hb, hb_⟩
 have HC := kp hc
 have HG1 := kp (show w.heap.size ≤ g ∧ w.heap.size ≤ b by have := HB.out.size; omega)
 replace HX := kp (HX.out.grow hb_); replace HB := kp (HB.out.grow' hb_)
 clear hc hg hb hb_
 try clear w_
 rename World => w_
 go_wp2_with fail
 refine (knew_any _).mono ?_
 rintro e w2_ ⟨g2, b2, rfl, hk, hg, hb, hb_⟩
 have HK := kp hk
 have HNE := kp (show g2 ∉ [g, b] ∧ b2 ∉ [g, b] ∧ g ∉ [g2, b2] ∧ b ∉ [g2, b2] by have h1 := HC.out.ltg; have h2 := HC.out.ltb; simp; omega)
 have HG2 := kp (show w.heap.size ≤ g2 ∧ w.heap.size ≤ b2 by have := HB.out.size; omega)
 replace HX := kp (HX.out.grow hb_); replace HC := kp (HC.out.grow hb_); replace HB := kp (HB.out.grow' hb_)
 clear hk hg hb hb_
 try clear w_
 rename World => w_
 have HGC := kp (show ∀ x ∈ [g, b], w.heap.size ≤ x from fun x hx => by have := HG1.out; simp only [List.mem_cons, List.not_mem_nil, or_false] at hx; rcases hx with rfl | rfl; exact this.1; exact this.2)
 have HGK := kp (show ∀ x ∈ [g2, b2], w.heap.size ≤ x from fun x hx => by have := HG2.out; simp only [List.mem_cons, List.not_mem_nil, or_false] at hx; rcases hx with rfl | rfl; exact this.1; exact this.2)
 have HI0 := kp (show At w_ g1 37 2 sv ∧ CoinsAt w_ g b (X.take 0) (amtC (X.take 0)) ∧ LocksAt w_ g2 b2 [] 0 ∧ Below w.heap.size w w_ from ⟨HX.out, HC.out, HK.out, HB.out⟩)
 clear HX HC HK HB
 have z1 : ((0 : Int) != 0) = false := by decide
 go_wp2_with fail
 go_loopw [6] (fun iv wr => ∃ (k : Nat), k ≤ n ∧ iv = .int .i64 k ∧ Hid (At wr g1 37 2 sv ∧ CoinsAt wr g b (X.take k) (amtC (X.take k)) ∧ LocksAt wr g2 b2 [] 0 ∧ Below w.heap.size w wr)) (fun iv _ => n - (intOf iv).toNat)
 case atStart => exact ⟨0, Nat.zero_le _, rfl, HI0⟩
 case round =>
  obtain ⟨k, hk, rfl, hI⟩ := hrel
  clear HI0
  obtain ⟨hx_, hc_, hk_, hb_⟩ := hI.out
  have HX := kp hx_; have HC := kp hc_; have HK := kp hk_; have HB := kp hb_
  clear hI hx_ hc_ hk_ hb_
  rename World => w_
  have c0 := HX.out.blk.at_ HT0.out.1
  by_cases hlt : k < n
  ·obtain ⟨bx, off, e, rfl, hbl, he, hok, hcc⟩ := HH.out.at_ hlt
   obtain ⟨m1, m2, m3, m4, m5⟩ := HMC.out k e he
   have HPU := kp (fun w' (h' : CoinsAt w' g b (X.take k) (amtC (X.take k))) => put_any g b (X.take k) (amtC (X.take k)) e.1 e.2 w' h' hok.1 hok.2 m4 m5)
   rw [m1, m2, m3] at HPU
   unfold ptA coinA at HPU
   have HPC := kp (ptV_cl hok.1); have HVC := kp (coinV_cl hok.2)
   have HBL := kp hbl
   have HM1 := kp (fun w' (hb : Below w.heap.size w w') => show ∀ j u, (ptV e.1)[j]? = some u → w'.cell? ⟨bx, off + k * 66 + j, none⟩ = some u from fun j u hu => bcell hb (by have := hcc (0 + j) u (encAtC_pt hok hu); rwa [Nat.zero_add] at this))
   have HM2 := kp (fun w' (hb : Below w.heap.size w w') => show ∀ j u, (coinV e.2)[j]? = some u → w'.cell? ⟨bx, off + k * 66 + 33 + j, none⟩ = some u from fun j u hu => bcell hb (by have := hcc (33 + j) u (encAtC_coin hok hu); rwa [← Nat.add_assoc] at this))
   obtain ⟨es, hes⟩ : ∃ q, q = ptV e.1 := ⟨_, rfl⟩
   obtain ⟨vs, hvs⟩ : ∃ q, q = coinV e.2 := ⟨_, rfl⟩
   rw [← hes] at HPC HM1 HPU
   rw [← hvs] at HVC HM2 HPU
   clear hbl he hok hcc hes hvs m1 m2 m3 m4 m5
   go_wp2_with fail
   try go_wp2_with fail
   repeat' (first | (with_reducible refine wp_plan (id := 7) Grow [0,0,2,0,0,0,2,0,2,0,0,0,2,3,0] (.get 0 (.get 1 (.get 2 (.get 3 (.get 4 (.get 5 (.get 6 (.get 7 (.get 8 (.get 9 (.get 10 (.get 11 (.get 12 (.act 13 (.get 14 .done))))))))))))))) (by kernel_rfl) (by kernel_rfl) Grow.refl Grow.trans ?_) | go_values | go_skip | go_guarded | go_step | go_upon | go_back)
   intro w_ hd_
   have hb_ := hd_.grow
   replace HB := kp (HB.out.grow' hb_)
   replace HX := kp (HX.out.grow hb_)
   replace HC := kp (HC.out.grow hb_)
   replace HK := kp (HK.out.grow hb_)
   clear hb_ hd_
   replace HM1 := kp (HM1.out _ HB.out); replace HM2 := kp (HM2.out _ HB.out); replace HBL := kp (show bx < w_.heap.size from Nat.lt_of_lt_of_le HBL.out HB.out.size)
   clear c0
   have c0 := HX.out.blk.at_ HT0.out.1
   repeat (first | (refine pl_calm rfl rfl (by first | exact wanted_none rfl | (go_simp; done) | rfl) (fun w_ => by first | (go_simp; rfl) | (go_simp; done) | rfl) (fun K hK => ?_); go_simp; refine hK _ _ ?_; clear hK K) | (refine pl_skip rfl (by first | (go_simp; done) | rfl) (fun K hK => ?_); go_simp; refine hK _ _ ?_; clear hK K) | (refine pl_skipa rfl (by first | (go_simp; done) | rfl) (fun K hK => ?_); go_simp; refine hK _ _ ?_; clear hK K) | (refine pl_load rfl rfl (by first | exact wanted_none rfl | (go_simp; done) | rfl) rfl (by first | rfl | (go_simp; rfl)) (by kernel_rfl) (by first | exact c0) (fun K hK => ?_); go_simp; refine hK _ _ ?_; clear hK K) | (refine pl_loadnow rfl rfl (by first | exact wanted_none rfl | (go_simp; done) | rfl) rfl (by first | rfl | (go_simp; rfl)) (by kernel_rfl) (by first | exact c0) (fun K hK => ?_); go_simp; refine hK _ _ ?_; clear hK K))
   refine pl_loadm rfl (by decide) (by exact wanted_none rfl) rfl row_point HM1.out HBL.out (by first | rfl | (go_simp; done) | rfl) HPC.out.len (fun K hK => ?_)
   go_simp
   refine hK _ _ ?_
   clear hK K
   repeat (first | (refine pl_calm rfl rfl (by first | exact wanted_none rfl | (go_simp; done) | rfl) (fun w_ => by first | (go_simp; rfl) | (go_simp; done) | rfl) (fun K hK => ?_); go_simp; refine hK _ _ ?_; clear hK K) | (refine pl_skip rfl (by first | (go_simp; done) | rfl) (fun K hK => ?_); go_simp; refine hK _ _ ?_; clear hK K) | (refine pl_skipa rfl (by first | (go_simp; done) | rfl) (fun K hK => ?_); go_simp; refine hK _ _ ?_; clear hK K) | (refine pl_load rfl rfl (by first | exact wanted_none rfl | (go_simp; done) | rfl) rfl (by first | rfl | (go_simp; rfl)) (by kernel_rfl) (by first | exact c0) (fun K hK => ?_); go_simp; refine hK _ _ ?_; clear hK K) | (refine pl_loadnow rfl rfl (by first | exact wanted_none rfl | (go_simp; done) | rfl) rfl (by first | rfl | (go_simp; rfl)) (by kernel_rfl) (by first | exact c0) (fun K hK => ?_); go_simp; refine hK _ _ ?_; clear hK K))
   refine pl_loadm rfl (by decide) (by exact wanted_none rfl) rfl row_coin HM2.out HBL.out (by first | rfl | (go_simp; done) | rfl) HVC.out.len (fun K hK => ?_)
   go_simp
   refine hK _ _ ?_
   clear hK K
   repeat ((first | refine plc (fun K hK => ?_) | refine pl_skip rfl (by first | (go_simp; done) | rfl) (fun K hK => ?_) | refine pl_skipa rfl (by first | (go_simp; done) | rfl) (fun K hK => ?_)); go_simp; refine hK _ _ ?_; clear hK K)
   clear c0 HM1 HM2 HBL
   refine pl_act rfl (by first | exact wanted_none rfl | (go_simp; done) | rfl) (fun K hK => ?_)
   go_wp2_with fail
   refine Calls.mono (show Calls Tryz.prog 32 _ w_ _ from HPU.out w_ HC.out) ?_
   rintro e w2_ ⟨rfl, ht_, hc_, -⟩
   have HNX := kp (HX.out.ne_coins HC.out (by decide))
   replace HC := kp (hc_ (by first | trivial | rfl))
   go_wp2_with fail
   refine hK _ _ (fun h => by cases h) ?_
   clear hK K hc_
   replace HX := kp (HX.out.touchd ht_ HNX.out); replace HK := kp (HK.out.touchd ht_ HNE.out.1 HNE.out.2.1); replace HB := kp (below_touch HB.out ht_ HGC.out)
   clear ht_ HNX HPU
   try clear w_
   rename World => w_
   repeat ((first | refine plc (fun K hK => ?_) | refine pl_skip rfl (by first | (go_simp; done) | rfl) (fun K hK => ?_) | refine pl_skipa rfl (by first | (go_simp; done) | rfl) (fun K hK => ?_)); go_simp; refine hK _ _ ?_; clear hK K)
   refine pl_done ?_
   go_wp2_with fail
   go_roundw
   case rel => exact ⟨k + 1, by omega, by go_num, kp ⟨HX.out, HC.out, HK.out, HB.out⟩⟩
   case measure => simp [intOf]; omega
  ·obtain rfl : k = n := by omega
   have HCN := kp (show CoinsAt w_ g b X (amtC X) by have h := HC.out; rw [List.take_of_length_le (by have := HH.out.2.2; omega)] at h; exact h)
   have HI0 := kp (show At w_ g1 37 2 sv ∧ CoinsAt w_ g b X (amtC X) ∧ LocksAt w_ g2 b2 (Y.take 0) (amtK (Y.take 0)) ∧ Below w.heap.size w w_ from ⟨HX.out, HCN.out, HK.out, HB.out⟩)
   clear HX HC HK HB HCN
   go_wp2_with fail
   clear c0
   go_loopw [7] (fun iv wr => ∃ (k : Nat), k ≤ n2 ∧ iv = .int .i64 k ∧ Hid (At wr g1 37 2 sv ∧ CoinsAt wr g b X (amtC X) ∧ LocksAt wr g2 b2 (Y.take k) (amtK (Y.take k)) ∧ Below w.heap.size w wr)) (fun iv _ => n2 - (intOf iv).toNat)
   case atStart => exact ⟨0, Nat.zero_le _, rfl, HI0⟩
   case round =>
    obtain ⟨k2, hk2, rfl, hI⟩ := hrel
    clear HI0
    obtain ⟨hx_, hc_, hk_, hb_⟩ := hI.out
    have HX := kp hx_; have HC := kp hc_; have HK := kp hk_; have HB := kp hb_
    clear hI hx_ hc_ hk_ hb_
    rename World => w_
    have c0 := HX.out.blk.at_ HT0.out.2
    by_cases hlt2 : k2 < n2
    ·obtain ⟨bx, off, e, rfl, hbl, he, hok, hcc⟩ := HH2.out.at_ hlt2
     obtain ⟨m1, m2, m3, m4, m5⟩ := HMK.out k2 e he
     have HPU := kp (fun w' (h' : LocksAt w' g2 b2 (Y.take k2) (amtK (Y.take k2))) => kput_any g2 b2 (Y.take k2) (amtK (Y.take k2)) e.1 e.2.2 e.2.1 w' h' hok.1 hok.2.2 hok.2.1 m4 m5)
     rw [m1, m2, m3] at HPU
     unfold ptA coinA at HPU
     have HPC := kp (ptV_cl hok.1); have HVC := kp (coinV_cl hok.2.1); have HIC := kp (aidV_cl hok.2.2)
     have HBL := kp hbl
     have HM1 := kp (fun w' (hb : Below w.heap.size w w') => show ∀ j u, (ptV e.1)[j]? = some u → w'.cell? ⟨bx, off + k2 * 98 + j, none⟩ = some u from fun j u hu => bcell hb (by have := hcc (0 + j) u (encAtK_pt hok hu); rwa [Nat.zero_add] at this))
     have HM3 := kp (fun w' (hb : Below w.heap.size w w') => show ∀ j u, (e.2.2.map B)[j]? = some u → w'.cell? ⟨bx, off + k2 * 98 + 33 + j, none⟩ = some u from fun j u hu => bcell hb (by have := hcc (33 + j) u (encAtK_for0 hok hu); rwa [← Nat.add_assoc] at this))
     have HM2 := kp (fun w' (hb : Below w.heap.size w w') => show ∀ j u, (coinV e.2.1)[j]? = some u → w'.cell? ⟨bx, off + k2 * 98 + 65 + j, none⟩ = some u from fun j u hu => bcell hb (by have := hcc (65 + j) u (encAtK_c8 hok hu); rwa [← Nat.add_assoc] at this))
     obtain ⟨es, hes⟩ : ∃ q, q = ptV e.1 := ⟨_, rfl⟩
     obtain ⟨vs, hvs⟩ : ∃ q, q = coinV e.2.1 := ⟨_, rfl⟩
     obtain ⟨is, his⟩ : ∃ q, q = e.2.2.map B := ⟨_, rfl⟩
     rw [← hes] at HPC HM1 HPU
     rw [← hvs] at HVC HM2 HPU
     rw [← his] at HIC HM3 HPU
     clear hbl he hok hcc hes hvs his m1 m2 m3 m4 m5
     go_wp2_with fail
     try go_wp2_with fail
     repeat' (first | (with_reducible refine wp_plan (id := 12) Grow [0,0,2,0,0,0,2,0,2,0,0,0,2,0,2,0,0,0,2,3,0] (.get 0 (.get 1 (.get 2 (.get 3 (.get 4 (.get 5 (.get 6 (.get 7 (.get 8 (.get 9 (.get 10 (.get 11 (.get 12 (.get 13 (.get 14 (.get 15 (.get 16 (.get 17 (.get 18 (.act 19 (.get 20 .done))))))))))))))))))))) (by kernel_rfl) (by kernel_rfl) Grow.refl Grow.trans ?_) | go_values | go_skip | go_guarded | go_step | go_upon | go_back)
     intro w_ hd_
     have hb_ := hd_.grow
     replace HB := kp (HB.out.grow' hb_)
     replace HX := kp (HX.out.grow hb_)
     replace HC := kp (HC.out.grow hb_)
     replace HK := kp (HK.out.grow hb_)
     clear hb_ hd_
     replace HM1 := kp (HM1.out _ HB.out); replace HM2 := kp (HM2.out _ HB.out); replace HM3 := kp (HM3.out _ HB.out); replace HBL := kp (show bx < w_.heap.size from Nat.lt_of_lt_of_le HBL.out HB.out.size)
     clear c0
     have c0 := HX.out.blk.at_ HT0.out.2
     repeat (first | (refine pl_calm rfl rfl (by first | exact wanted_none rfl | (go_simp; done) | rfl) (fun w_ => by first | (go_simp; rfl) | (go_simp; done) | rfl) (fun K hK => ?_); go_simp; refine hK _ _ ?_; clear hK K) | (refine pl_skip rfl (by first | (go_simp; done) | rfl) (fun K hK => ?_); go_simp; refine hK _ _ ?_; clear hK K) | (refine pl_skipa rfl (by first | (go_simp; done) | rfl) (fun K hK => ?_); go_simp; refine hK _ _ ?_; clear hK K) | (refine pl_load rfl rfl (by first | exact wanted_none rfl | (go_simp; done) | rfl) rfl (by first | rfl | (go_simp; rfl)) (by kernel_rfl) (by first | exact c0) (fun K hK => ?_); go_simp; refine hK _ _ ?_; clear hK K) | (refine pl_loadnow rfl rfl (by first | exact wanted_none rfl | (go_simp; done) | rfl) rfl (by first | rfl | (go_simp; rfl)) (by kernel_rfl) (by first | exact c0) (fun K hK => ?_); go_simp; refine hK _ _ ?_; clear hK K))
     refine pl_loadm rfl (by decide) (by exact wanted_none rfl) rfl row_point HM1.out HBL.out (by first | rfl | (go_simp; done) | rfl) HPC.out.len (fun K hK => ?_)
     go_simp
     refine hK _ _ ?_
     clear hK K
     repeat (first | (refine pl_calm rfl rfl (by first | exact wanted_none rfl | (go_simp; done) | rfl) (fun w_ => by first | (go_simp; rfl) | (go_simp; done) | rfl) (fun K hK => ?_); go_simp; refine hK _ _ ?_; clear hK K) | (refine pl_skip rfl (by first | (go_simp; done) | rfl) (fun K hK => ?_); go_simp; refine hK _ _ ?_; clear hK K) | (refine pl_skipa rfl (by first | (go_simp; done) | rfl) (fun K hK => ?_); go_simp; refine hK _ _ ?_; clear hK K) | (refine pl_load rfl rfl (by first | exact wanted_none rfl | (go_simp; done) | rfl) rfl (by first | rfl | (go_simp; rfl)) (by kernel_rfl) (by first | exact c0) (fun K hK => ?_); go_simp; refine hK _ _ ?_; clear hK K) | (refine pl_loadnow rfl rfl (by first | exact wanted_none rfl | (go_simp; done) | rfl) rfl (by first | rfl | (go_simp; rfl)) (by kernel_rfl) (by first | exact c0) (fun K hK => ?_); go_simp; refine hK _ _ ?_; clear hK K))
     refine pl_loadm rfl (by decide) (by exact wanted_none rfl) rfl row_idk HM3.out HBL.out (by first | rfl | (go_simp; done) | rfl) HIC.out.len (fun K hK => ?_)
     go_simp
     refine hK _ _ ?_
     clear hK K
     repeat (first | (refine pl_calm rfl rfl (by first | exact wanted_none rfl | (go_simp; done) | rfl) (fun w_ => by first | (go_simp; rfl) | (go_simp; done) | rfl) (fun K hK => ?_); go_simp; refine hK _ _ ?_; clear hK K) | (refine pl_skip rfl (by first | (go_simp; done) | rfl) (fun K hK => ?_); go_simp; refine hK _ _ ?_; clear hK K) | (refine pl_skipa rfl (by first | (go_simp; done) | rfl) (fun K hK => ?_); go_simp; refine hK _ _ ?_; clear hK K) | (refine pl_load rfl rfl (by first | exact wanted_none rfl | (go_simp; done) | rfl) rfl (by first | rfl | (go_simp; rfl)) (by kernel_rfl) (by first | exact c0) (fun K hK => ?_); go_simp; refine hK _ _ ?_; clear hK K) | (refine pl_loadnow rfl rfl (by first | exact wanted_none rfl | (go_simp; done) | rfl) rfl (by first | rfl | (go_simp; rfl)) (by kernel_rfl) (by first | exact c0) (fun K hK => ?_); go_simp; refine hK _ _ ?_; clear hK K))
     refine pl_loadm rfl (by decide) (by exact wanted_none rfl) rfl row_coin HM2.out HBL.out (by first | rfl | (go_simp; done) | rfl) HVC.out.len (fun K hK => ?_)
     go_simp
     refine hK _ _ ?_
     clear hK K
     repeat ((first | refine plc (fun K hK => ?_) | refine pl_skip rfl (by first | (go_simp; done) | rfl) (fun K hK => ?_) | refine pl_skipa rfl (by first | (go_simp; done) | rfl) (fun K hK => ?_)); go_simp; refine hK _ _ ?_; clear hK K)
     clear c0 HM1 HM2 HM3 HBL
     refine pl_act rfl (by first | exact wanted_none rfl | (go_simp; done) | rfl) (fun K hK => ?_)
     go_wp2_with fail
     refine Calls.mono (show Calls Tryz.prog 34 _ w_ _ from HPU.out w_ HK.out) ?_
     rintro e w2_ ⟨rfl, ht_, hc_, -⟩
     have HNX := kp (HX.out.ne_locks HK.out (by decide))
     replace HK := kp (hc_ (by first | trivial | rfl))
     go_wp2_with fail
     refine hK _ _ (fun h => by cases h) ?_
     clear hK K hc_
     replace HX := kp (HX.out.touchd ht_ HNX.out); replace HC := kp (HC.out.touchd ht_ HNE.out.2.2.1 HNE.out.2.2.2); replace HB := kp (below_touch HB.out ht_ HGK.out)
     clear ht_ HNX HPU
     try clear w_
     rename World => w_
     repeat ((first | refine plc (fun K hK => ?_) | refine pl_skip rfl (by first | (go_simp; done) | rfl) (fun K hK => ?_) | refine pl_skipa rfl (by first | (go_simp; done) | rfl) (fun K hK => ?_)); go_simp; refine hK _ _ ?_; clear hK K)
     refine pl_done ?_
     go_wp2_with fail
     go_roundw
     case rel => exact ⟨k2 + 1, by omega, by go_num, kp ⟨HX.out, HC.out, HK.out, HB.out⟩⟩
     case measure => simp [intOf]; omega
    ·obtain rfl : k2 = n2 := by omega
     have HKN := kp (show LocksAt w_ g2 b2 Y (amtK Y) by have h := HK.out; rw [List.take_of_length_le (by have := HH2.out.2.2; omega)] at h; exact h)
     go_wp2_with fail
     go_ret2
     exact ⟨g, b, g2, b2, rfl, HC.out, HKN.out, ⟨HG1.out.1, HG1.out.2, HG2.out.1, HG2.out.2⟩, HNE.out, HB.out⟩
end Go.Proofs.YtnnjjbkdjkjnpaaGreatDoor

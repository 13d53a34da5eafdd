/- Contracts of coins.Compare and its reference: the order of outputs. -/
import Derived.Test.YtnnjjbkdjkjnpaaGreatDoorSpendBackRd17
import Derived.Lib.BytesEntry
import Derived.Lib.QuietBelow
set_option linter.unusedSimpArgs false
set_option linter.unusedVariables false
set_option maxRecDepth 100000
set_option maxHeartbeats 16000000
namespace Go.Proofs.YtnnjjbkdjkjnpaaGreatDoor
open Go.RowKit
theorem bytesOf_b8 (ds : List UInt8) : Lib.bytesOf (ds.map b8) = ds := by
 unfold Lib.bytesOf b8
 rw [List.map_map]
 conv => rhs; rw [← List.map_id ds]
 apply List.map_congr_left
 intro x _
 simp
theorem run_bytes {P : Program} (w : World) {BB : Nat} {A : Option Addr} {n c : Nat} {ds : List UInt8} (h : Sl w BB 1 A n (ds.map B)) :
  (Extern.Bytes.bytesOf (.slice A n c)).run P w = .ok ⟨ds.toArray⟩ w := by
 have hl : ds.length = n := by have := h.len; simpa using this
 rcases Nat.eq_zero_or_pos n with h0 | h0
 ·subst h0
  obtain rfl : ds = [] := List.eq_nil_of_length_eq_zero hl
  cases A with
  | none => rfl
  | some a => rfl
 ·obtain ⟨b, off, rfl, _, hc⟩ := h.2 h0
  have := Lib.run_loadBytesX (P := P) w (ds.map b8) ⟨b, off, none⟩ .empty (fun j x hj => by
   rw [Addr.add_lit]
   refine hc j _ ?_
   rw [List.getElem?_map] at hj ⊢
   obtain ⟨y, hy, rfl⟩ := Option.map_eq_some_iff.1 hj
   rw [hy]; rfl)
  rw [bytesOf_b8, List.length_map, hl] at this
  show (Extern.Bytes.loadBytes ⟨b, off, none⟩ n .empty).run P w = _
  rw [this]
  congr 2
  simp
theorem bcmp_any (A A2 : Option Addr) (n c n2 c2 : Nat) (ds es : List UInt8) (w : World) {B1 B2 : Nat} (h1 : Sl w B1 1 A n (ds.map B)) (h2 : Sl w B2 1 A2 n2 (es.map B)) :
  Calls Tryz.prog 113 #[.slice A n c, .slice A2 n2 c2] w fun e w' => e = .returned (.int .i64 (Lib.compareBytes ds es)) ∧ w = w' := by
 have hrun : (callFunc 125 #[.slice A n c, .slice A2 n2 c2]).run Tryz.prog w = .ok (.value (.int .i64 (Lib.compareBytes ds es))) w := by
  rw [run_callFunc_extern Tryz.func125 (by kernel_rfl) (by kernel_rfl) (by kernel_rfl) (e := Extern.BytealgCompare.compare) (by kernel_rfl)]
  change (Sem.run Tryz.prog (do pure (goInt (Extern.BytealgCompare.cmp (← Extern.Bytes.bytesOf (.slice A n c)) (← Extern.Bytes.bytesOf (.slice A2 n2 c2))))) w).andThen _ = _
  simp only [Sem.run_bind, run_bytes w h1, run_bytes w h2, Result.andThen, Sem.run_pure]
  rw [Lib.cmp_eq]
  rfl
 generalize Lib.compareBytes ds es = z at *
 clear h1 h2
 go_enter Tryz.func113, Tryz.ntmps113
 go_wp2
 go_ret
 exact ⟨rfl, rfl⟩
def ptV (p : List UInt8 × Int) : List Value := p.1.map B ++ [.int .i64 p.2]
theorem ptV_length {p : List UInt8 × Int} (h : p.1.length = 32) : (ptV p).length = 33 := by simp [ptV, h]
theorem ptV_ix {p : List UInt8 × Int} (h : p.1.length = 32) : (ptV p)[32]? = some (.int .i64 p.2) := by
 unfold ptV; rw [List.getElem?_append_right (by simp [h])]; simp [h]
theorem ptV_at {p : List UInt8 × Int} (h : p.1.length = 32) {k : Nat} (hk : k < 32) : (ptV p)[k]? = some (.int .u8 (b8 (p.1[k]?.getD 0))) := by
 unfold ptV; rw [List.getElem?_append_left (by simp [h, hk]), List.getElem?_map, List.getElem?_eq_getElem (by omega)]; rfl
theorem Blk.ptSl {w : World} {g : Nat} {t : TypeId} {p : List UInt8 × Int} (h : Blk w g t (ptV p)) (hl : p.1.length = 32) : Sl w w.heap.size 1 (some ⟨g, 0, none⟩) 32 (p.1.map B) :=
 ⟨by simp [hl], fun _ => ⟨g, 0, rfl, h.lt, fun j u hu => by
  rw [Nat.zero_add]
  refine h.at_ ?_
  have hj : j < (p.1.map B).length := (List.getElem?_eq_some_iff.1 hu).1
  unfold ptV; rw [List.getElem?_append_left hj]; exact hu⟩⟩
def cmpP (p q : List UInt8 × Int) : Int := if Lib.compareBytes p.1 q.1 = 0 then cmpI p.2 q.2 else Lib.compareBytes p.1 q.1
theorem cb_lt : ∀ (k : Nat) (a b : List UInt8), (∀ j, j < k → a[j]?.getD 0 = b[j]?.getD 0) → k < a.length → k < b.length → a[k]?.getD 0 < b[k]?.getD 0 → Lib.compareBytes a b = -1
 | _, [], _, _, h, _, _ => by simp at h
 | _, _ :: _, [], _, _, h, _ => by simp at h
 | 0, x :: a, y :: b, _, _, _, h => by
  have h2 : x < y := by simpa using h
  rw [Lib.compareBytes]; simp [h2]
 | k + 1, x :: a, y :: b, hj, h1, h2, h => by
  have h0 : x = y := by simpa using hj 0 (by omega)
  subst h0
  rw [Lib.compareBytes]
  have := cb_lt k a b (fun j h => by simpa using hj (j + 1) (by omega)) (by simpa using h1) (by simpa using h2) (by simpa using h)
  simp [this]
theorem cb_gt : ∀ (k : Nat) (a b : List UInt8), (∀ j, j < k → a[j]?.getD 0 = b[j]?.getD 0) → k < a.length → k < b.length → b[k]?.getD 0 < a[k]?.getD 0 → Lib.compareBytes a b = 1
 | _, [], _, _, h, _, _ => by simp at h
 | _, _ :: _, [], _, _, h, _ => by simp at h
 | 0, x :: a, y :: b, _, _, _, h => by
  have h2 : y < x := by simpa using h
  have h3 : ¬ x < y := UInt8.lt_asymm h2
  rw [Lib.compareBytes]; simp [h2, h3]
 | k + 1, x :: a, y :: b, hj, h1, h2, h => by
  have h0 : x = y := by simpa using hj 0 (by omega)
  subst h0
  rw [Lib.compareBytes]
  have := cb_gt k a b (fun j h => by simpa using hj (j + 1) (by omega)) (by simpa using h1) (by simpa using h2) (by simpa using h)
  simp [this]
theorem cb_self : ∀ (a : List UInt8), Lib.compareBytes a a = 0
 | [] => by rw [Lib.compareBytes]
 | x :: a => by rw [Lib.compareBytes]; simp [cb_self a]
theorem eq_of_getD {a b : List UInt8} {n : Nat} (ha : a.length = n) (hb : b.length = n) (h : ∀ j, j < n → a[j]?.getD 0 = b[j]?.getD 0) : a = b := by
 apply List.ext_getElem (by omega)
 intro j h1 h2
 have := h j (by omega)
 rw [List.getElem?_eq_getElem h1, List.getElem?_eq_getElem h2] at this
 exact this
theorem b8_lt {x y : UInt8} : b8 x < b8 y ↔ x < y := by unfold b8; rw [UInt8.lt_iff_toNat_lt]; omega
theorem rccmp_any (p q : List UInt8 × Int) (w : World) (hp : p.1.length = 32) (hq : q.1.length = 32) :
  Calls Tryz.prog 66 #[.agg (ptV p).toArray, .agg (ptV q).toArray] w fun e w' => e = .returned (.int .i64 (cmpP p q)) ∧ Below w.heap.size w w' := by
 obtain ⟨xs, hxs⟩ : ∃ xs, xs = ptV p := ⟨_, rfl⟩
 obtain ⟨ys, hys⟩ : ∃ ys, ys = ptV q := ⟨_, rfl⟩
 obtain ⟨z, hz⟩ : ∃ z, z = cmpP p q := ⟨_, rfl⟩
 rw [← hxs, ← hys, ← hz]
 have HZ := kp hz; clear hz
 have HX := kp hxs; have HY := kp hys
 have HP := kp hp; have HQ := kp hq
 clear hxs hys hp hq
 go_enter Tryz.func66, Tryz.ntmps66
 go_wp2_with (first | (with_reducible refine wpl_box (o := ⟨some 2, _, _, _, _, _⟩) rfl rfl rfl ?_))
 intro w1 hb1 hbw1 hsz1
 generalize hgd : w.heap.size = g at *
 go_wp2_with (first | (with_reducible refine wpl_box (o := ⟨some 3, _, _, _, _, _⟩) rfl rfl rfl ?_))
 intro w2 hb2 hbw2 hsz2
 have H2 := kp hb2
 have H1 := kp (hb1.below hbw2 (by omega))
 have HBW := kp (hbw1.trans (hbw2.mono (by omega)))
 have HG := kp hgd
 clear hb1 hb2 hbw1 hbw2 hsz1 hsz2 hgd
 generalize g + 1 = g2 at *
 go_wp2_with fail
 go_loopw [5] (fun i wr => ∃ k : Nat, k ≤ 32 ∧ i = .int .i64 k ∧ Hid (∀ j, j < k → p.1[j]?.getD 0 = q.1[j]?.getD 0) ∧ Hid (Drawn w2 wr)) (fun i _ => 32 - (intOf i).toNat)
 case atStart => exact ⟨0, by omega, rfl, fun j hj => absurd hj (by omega), Drawn.refl _⟩
 case round =>
  obtain ⟨k, hk, rfl, HE, HD⟩ := hrel
  by_cases hlt : k < 32
  ·have c1 : wr.cell? ⟨g, k, none⟩ = some (.int .u8 (b8 (p.1[k]?.getD 0))) := (HD.out.cell _).trans (H1.out.at_ (by rw [HX.out]; exact ptV_at HP.out hlt))
   have c2 : wr.cell? ⟨g2, k, none⟩ = some (.int .u8 (b8 (q.1[k]?.getD 0))) := (HD.out.cell _).trans (H2.out.at_ (by rw [HY.out]; exact ptV_at HQ.out hlt))
   generalize hx : p.1[k]?.getD 0 = x at *
   generalize hy : q.1[k]?.getD 0 = y at *
   have HX2 := kp hx; have HY2 := kp hy
   clear hx hy
   have gk : (k : Int) < 32 := by omega
   by_cases h1 : b8 x < b8 y
   ·repeat' (first | (with_reducible refine wp_region_quiet_lit (id := 4) (by kernel_rfl) (by kernel_rfl) ?_) | go_values | go_skip | go_guarded | go_step | go_upon | go_back)
    repeat (quiet_step (fail))
    refine wpQuiet_nil ?_
    intro _ hw'
    obtain ⟨nq, hw''⟩ := hw'
    subst hw''
    go_wp2_with fail
    go_ret
    have e : Lib.compareBytes p.1 q.1 = -1 := cb_lt k _ _ HE.out (by rw [HP.out]; exact hlt) (by rw [HQ.out]; exact hlt) (by rw [HX2.out, HY2.out]; exact b8_lt.1 h1)
    exact ⟨ret_int (by rw [HZ.out, cmpP, e]; rfl), by rw [HG.out]; exact (Drawn.n _ _).below (HD.out.below HBW.out)⟩
   ·repeat' (first | (with_reducible refine wp_region_quiet_lit (id := 4) (by kernel_rfl) (by kernel_rfl) ?_) | go_values | go_skip | go_guarded | go_step | go_upon | go_back)
    repeat (quiet_step (fail))
    refine wpQuiet_nil ?_
    intro _ hw'
    obtain ⟨nq, hw''⟩ := hw'
    subst hw''
    clear c1 c2
    have hd2 : Drawn w2 (wr.drewN nq) := HD.out.trans ⟨nq, rfl⟩
    generalize wr.drewN nq = wr1 at hd2 ⊢
    have c1 : wr1.cell? ⟨g, k, none⟩ = some (.int .u8 (b8 x)) := (hd2.cell _).trans (H1.out.at_ (by rw [HX.out]; exact (ptV_at HP.out hlt).trans (by rw [HX2.out])))
    have c2 : wr1.cell? ⟨g2, k, none⟩ = some (.int .u8 (b8 y)) := (hd2.cell _).trans (H2.out.at_ (by rw [HY.out]; exact (ptV_at HQ.out hlt).trans (by rw [HY2.out])))
    have HD2 := kp hd2
    clear hd2 HD
    by_cases h2 : b8 y < b8 x
    ·repeat' (first | (with_reducible refine wp_region_quiet_lit (id := 6) (by kernel_rfl) (by kernel_rfl) ?_) | go_values | go_skip | go_guarded | go_step | go_upon | go_back)
     repeat (quiet_step (fail))
     refine wpQuiet_nil ?_
     intro _ hw'
     obtain ⟨nq, hw''⟩ := hw'
     subst hw''
     go_wp2_with fail
     go_ret
     have e : Lib.compareBytes p.1 q.1 = 1 := cb_gt k _ _ HE.out (by rw [HP.out]; exact hlt) (by rw [HQ.out]; exact hlt) (by rw [HX2.out, HY2.out]; exact b8_lt.1 h2)
     exact ⟨ret_int (by rw [HZ.out, cmpP, e]; rfl), by rw [HG.out]; exact (Drawn.n _ _).below (HD2.out.below HBW.out)⟩
    ·repeat' (first | (with_reducible refine wp_region_quiet_lit (id := 6) (by kernel_rfl) (by kernel_rfl) ?_) | go_values | go_skip | go_guarded | go_step | go_upon | go_back)
     repeat (quiet_step (fail))
     refine wpQuiet_nil ?_
     intro _ hw'
     obtain ⟨nq, hw''⟩ := hw'
     subst hw''
     clear c1 c2
     have HD3 := kp (HD2.out.trans ⟨nq, rfl⟩)
     have e : x = y := b8_inj (by omega)
     go_wp2_with fail
     go_roundw
     case rel => exact ⟨k + 1, by omega, by go_num, fun j hj => by
      by_cases hjk : j = k
      ·subst hjk; rw [HX2.out, HY2.out, e]
      ·exact HE.out j (by omega), HD3.out⟩
     case measure => simp [intOf]; omega
  ·obtain rfl : k = 32 := by omega
   have e := eq_of_getD HP.out HQ.out HE.out
   have e2 : z = cmpI p.2 q.2 := by rw [HZ.out, cmpP, e, cb_self, if_pos rfl]
   have HE2 := kp e2
   clear e e2 HZ
   have c1 : wr.cell? ⟨g, 32, none⟩ = some (.int .i64 p.2) := (HD.out.cell _).trans (H1.out.at_ (by rw [HX.out]; exact ptV_ix HP.out))
   have c2 : wr.cell? ⟨g2, 32, none⟩ = some (.int .i64 q.2) := (HD.out.cell _).trans (H2.out.at_ (by rw [HY.out]; exact ptV_ix HQ.out))
   generalize p.2 = u at *
   generalize q.2 = v at *
   obtain ⟨wo, rfl⟩ : ∃ wo : World, wo = wr := ⟨_, rfl⟩
   have HBF := kp (HD.out.below HBW.out)
   by_cases h1 : u < v
   ·go_wp2_with fail
    go_ret
    exact ⟨ret_int (by rw [HE2.out, cmpI, if_pos h1]), by rw [HG.out]; exact HBF.out⟩
   ·by_cases h2 : v < u
    ·go_wp2_with fail
     go_ret
     exact ⟨ret_int (by rw [HE2.out, cmpI, if_neg (by omega), if_pos h2]), by rw [HG.out]; exact HBF.out⟩
    ·go_wp2_with fail
     go_ret
     exact ⟨ret_int (by rw [HE2.out, cmpI, if_neg (by omega), if_neg (by omega)]), by rw [HG.out]; exact HBF.out⟩
theorem kl_point : WideMaps.KeyLaw Tryz.prog 69 := deep_law_laid laid_out (m := 3) (by omega) (of_decide_eq_true (by kernel_rfl)) (by kernel_rfl) (by kernel_rfl)
abbrev PtK := List UInt8 × Int
abbrev CoinV := List UInt8 × Int
def coinV (c : CoinV) : List Value := c.1.map B ++ [.int .u64 c.2]
def PtOK (p : PtK) : Prop := p.1.length = 32 ∧ (Lit.int .i64 p.2).wf = true
def CoinOK (c : CoinV) : Prop := c.1.length = 32 ∧ 0 ≤ c.2 ∧ c.2 ≤ 18446744073709551615
def ptA (p : PtK) : Value := .agg (ptV p).toArray
def coinA (c : CoinV) : Value := .agg (coinV c).toArray
theorem keyLits_u8 (d : Nat) (x : UInt8) : Tryz.prog.keyLits (d + 1) 5 [B x] = some [.int .u8 (b8 x)] := by
 have h : (Lit.int .u8 (b8 x)).wf = true := by have := b8_range x; simp [Lit.wf, IntKind.min, IntKind.max, IntKind.signed, IntKind.bits]; omega
 unfold Program.keyLits
 rw [Tryz.underlying5]
 show (if IntKind.u8 = IntKind.u8 ∧ (Lit.int .u8 (b8 x)).wf = true then some [Lit.int .u8 (b8 x)] else none) = _
 rw [if_pos ⟨rfl, h⟩]
theorem mapM_some {α β : Type} (f : α → Option β) (g : α → β) : ∀ (l : List α), (∀ x ∈ l, f x = some (g x)) → l.mapM f = some (l.map g)
 | [], _ => rfl
 | x :: l, h => by
  rw [List.mapM_cons, h x (by simp), mapM_some f g l (fun y hy => h y (by simp [hy]))]; rfl
theorem keyLits_id (d : Nat) (ds : List UInt8) (h : ds.length = 32) : ∃ ls, Tryz.prog.keyLits (d + 2) 46 (ds.map B) = some ls := by
 unfold Program.keyLits
 rw [Tryz.underlying46]
 simp only [List.length_map, h, cells_id, if_true, cells_u8, Nat.mul_one]
 have := mapM_some (fun i => Tryz.prog.keyLits (d + 1) 5 (List.take 1 (List.drop i (ds.map B)))) (fun i => [Lit.int .u8 (b8 (ds[i]?.getD 0))]) (List.range 32) (fun i hi => by
  have hi : i < 32 := by simpa using hi
  have e : List.take 1 (List.drop i (ds.map B)) = [B (ds[i]?.getD 0)] := by
   rw [List.take_one, List.head?_drop, List.getElem?_map, List.getElem?_eq_getElem (by omega)]; rfl
  rw [e, keyLits_u8])
 exact ⟨_, by rw [this]; rfl⟩
theorem keyOf_pt (p : PtK) (h : PtOK p) : ∃ l, keyOf Tryz.prog 69 (ptA p) = some l := by
 obtain ⟨h1, h2⟩ := h
 unfold keyOf
 rw [Tryz.underlying69]
 have hk : Tryz.prog.keyType 69 = true := by kernel_rfl
 have hf : (ptA p).formed Tryz.prog 69 = true := by
  unfold ptA Value.formed
  simp only [Tryz.underlying69, cells_point, List.size_toArray, ptV_length h1]
  rfl
 obtain ⟨n, hn⟩ : ∃ n, Tryz.prog.types.size = n + 3 := ⟨Tryz.prog.types.size - 3, by kernel_rfl⟩
 obtain ⟨ls, hls⟩ := keyLits_id (n + 1) p.1 h1
 have hc : (ptA p).cells.toList = ptV p := by simp [ptA, Value.cells]
 have hkl : ∃ l, Tryz.prog.keyLits (Tryz.prog.types.size + 1) 69 (ptV p) = some l := by
  rw [hn]
  unfold Program.keyLits
  rw [Tryz.underlying69]
  have e1 : List.take 32 (ptV p) = p.1.map B := by unfold ptV; rw [List.take_append_of_le_length (by simp [h1]), List.take_of_length_le (by simp [h1])]
  have e2 : List.take 1 (List.drop 32 (ptV p)) = [.int .i64 p.2] := by unfold ptV; rw [List.drop_append_of_le_length (by simp [h1]), List.drop_of_length_le (by simp [h1])]; rfl
  have e3 : Tryz.prog.keyLits (n + 3) 3 [.int .i64 p.2] = some [.int .i64 p.2] := by
   unfold Program.keyLits
   rw [Tryz.underlying3]
   show (if IntKind.i64 = IntKind.i64 ∧ (Lit.int .i64 p.2).wf = true then some [Lit.int .i64 p.2] else none) = _
   rw [if_pos ⟨rfl, h2⟩]
  simp only [cells_point, ptV_length h1]
  rw [if_pos ⟨trivial, by kernel_rfl⟩]
  simp only [List.mapM_cons, List.mapM_nil, List.drop_zero, cells_id, cells_int, e1, e2, e3, hls]
  exact ⟨_, rfl⟩
 obtain ⟨l, hl⟩ := hkl
 simp only [hk, hf, Bool.and_self, if_true, hc, hl, Option.map_some]
 exact ⟨_, rfl⟩
theorem map_B_inj : ∀ {a b : List UInt8}, a.map B = b.map B → a = b
 | [], [], _ => rfl
 | x :: a, y :: b, h => by
  simp only [List.map_cons, List.cons.injEq] at h
  have h1 : x = y := b8_inj (by have := h.1; unfold B at this; simpa using this)
  rw [h1, map_B_inj h.2]
 | [], _ :: _, h => by simp at h
 | _ :: _, [], h => by simp at h
theorem ptA_inj {p q : PtK} (hp : p.1.length = 32) (hq : q.1.length = 32) (h : ptA p = ptA q) : p = q := by
 unfold ptA at h
 have h2 : ptV p = ptV q := by simpa using h
 unfold ptV at h2
 have h3 := List.append_inj h2 (by simp [hp, hq])
 have e1 := map_B_inj h3.1
 have e2 : p.2 = q.2 := by simpa using h3.2
 exact Prod.ext e1 e2
abbrev CoinsL := List (PtK × CoinV)
def encC (L : CoinsL) : List (Value × Value) := L.map fun e => (ptA e.1, coinA e.2)
def LOK (L : CoinsL) : Prop := (∀ e ∈ L, PtOK e.1 ∧ CoinOK e.2) ∧ (L.map (·.1)).Nodup
def lookC (L : CoinsL) (p : PtK) : Option CoinV := (L.find? (fun e => e.1 == p)).map (·.2)
def noCoin : CoinV := (List.replicate 32 0, 0)
structure CoinsAt (w : World) (g b : Nat) (L : CoinsL) (s : Int) : Prop where
 blk : Blk w g 90 [.map (some b), .int .u64 s]
 map : ∃ es clock, w.heap[b]? = some (.map es clock) ∧ MapOK Tryz.prog 69 es clock ∧ kvs es = encC L
 ok : LOK L
 ne : g ≠ b
theorem CoinsAt.below {w w' : World} {g b B : Nat} {L : CoinsL} {s : Int} (h : CoinsAt w g b L s) (hb : Below B w w') (h1 : g < B) (h2 : b < B) : CoinsAt w' g b L s := by
 obtain ⟨hb1, ⟨es, clock, h3, h4, h5⟩, h6, h7⟩ := h
 exact ⟨hb1.below hb h1, ⟨es, clock, (hb.block b h2).trans h3, h4, h5⟩, h6, h7⟩
theorem CoinsAt.ltg {w : World} {g b : Nat} {L : CoinsL} {s : Int} (h : CoinsAt w g b L s) : g < w.heap.size := h.blk.lt
theorem CoinsAt.ltb {w : World} {g b : Nat} {L : CoinsL} {s : Int} (h : CoinsAt w g b L s) : b < w.heap.size := by
 obtain ⟨es, clock, h3, _⟩ := h.map
 exact (Array.getElem?_eq_some_iff.1 h3).1
theorem CoinsAt.call {w w' : World} {g b : Nat} {L : CoinsL} {s : Int} (h : CoinsAt w g b L s) (hb : Below w.heap.size w w') : CoinsAt w' g b L s := h.below hb h.ltg h.ltb
theorem zero_coin : (Tryz.prog.info? 77).map (·.zero) = some (some (.agg (coinV noCoin).toArray)) := by kernel_rfl
theorem row_coin : RowT Tryz.prog 77 33 := ⟨_, Tryz.underlying77, by kernel_rfl, by kernel_rfl⟩
theorem zeroV_coin (w : World) : (zeroValue 77).run Tryz.prog w = .ok (coinA noCoin) w := by
 obtain ⟨i, hi, hz⟩ := Option.map_eq_some_iff.1 zero_coin
 simp [zeroValue, typeInfo, hi, hz, coinA]
theorem coinV_length {c : CoinV} (h : CoinOK c) : (coinV c).length = 33 := by simp [coinV, h.1]
theorem coinV_one (c : CoinV) : ∀ u ∈ coinV c, u.oneCell' = true := by
 intro u hu
 rcases List.mem_append.1 hu with h | h
 ·obtain ⟨x, _, rfl⟩ := List.mem_map.1 h; rfl
 ·have : u = .int .u64 c.2 := by simpa using h
  subst this; rfl
theorem noCoin_ok : CoinOK noCoin := ⟨by simp [noCoin], by simp [noCoin], by simp [noCoin]⟩
theorem CoinsAt.look {w : World} {g b : Nat} {L : CoinsL} {s : Int} (h : CoinsAt w g b L s) {p : PtK} (hp : PtOK p) :
  ∃ c : CoinV, CoinOK c ∧ c = (lookC L p).getD noCoin ∧ (Instr.lookup 88 (.map (some b)) (ptA p) true).run Tryz.prog w = .ok (.tuple #[coinA c, .bool (lookC L p).isSome]) w := by
 obtain ⟨hb1, ⟨es, clock, h3, h4, h5⟩, ⟨h6, h6'⟩, h7⟩ := h
 obtain ⟨lx, hx⟩ := keyOf_pt p hp
 unfold lookC
 cases hf : L.find? (fun e => e.1 == p) with
 | none =>
  refine ⟨noCoin, noCoin_ok, rfl, ?_⟩
  refine run_lookup_no kl_point Tryz.underlying88 h3 h4 hx ?_ zeroV_coin
  intro q hq e
  rw [h5] at hq
  obtain ⟨en, hen, rfl⟩ := List.mem_map.1 hq
  have := List.find?_eq_none.1 hf en hen
  exact this (by simpa using ptA_inj (h6 en hen).1.1 hp.1 e)
 | some en =>
  have hmem := List.mem_of_find?_eq_some hf
  have hkey : en.1 = p := by simpa using List.find?_some hf
  refine ⟨en.2, (h6 en hmem).2, rfl, ?_⟩
  obtain ⟨j, hj, hje⟩ := List.getElem_of_mem hmem
  have e1 : (kvs es)[j]? = some (ptA en.1, coinA en.2) := by rw [h5]; unfold encC; rw [List.getElem?_map, List.getElem?_eq_getElem hj, hje]; rfl
  unfold kvs at e1
  rw [List.getElem?_map] at e1
  obtain ⟨me, hme, hmm⟩ := Option.map_eq_some_iff.1 e1
  simp only [Prod.mk.injEq] at hmm
  have := run_lookup_yes kl_point Tryz.underlying88 h3 h4 hx (j := j) (en := me) (by simpa using hme) (by rw [hmm.1, hkey])
  rw [hmm.2] at this
  exact this
theorem get_any (g b : Nat) (L : CoinsL) (s : Int) (p : PtK) (w : World) (h : CoinsAt w g b L s) (hp : PtOK p) :
  Calls Tryz.prog 77 #[.pointer (some ⟨g, 0, none⟩), ptA p] w fun e w' => e = .returned (.tuple #[coinA ((lookC L p).getD noCoin), .bool (lookC L p).isSome]) ∧ Below w.heap.size w w' := by
 obtain ⟨c, hc, hce, -⟩ := h.look hp
 rw [← hce]
 obtain ⟨ok, hok⟩ : ∃ ok, ok = (lookC L p).isSome := ⟨_, rfl⟩
 rw [← hok]
 have hlk : ∀ w', CoinsAt w' g b L s → (Instr.lookup 88 (.map (some b)) (ptA p) true).run Tryz.prog w' = .ok (.tuple #[coinA c, .bool ok]) w' := by
  intro w' h'
  obtain ⟨c', _, e, h2⟩ := h'.look hp
  rw [hce, ← e, hok]; exact h2
 have HLK := kp hlk
 have HC := kp h
 have HX := kp (ptV_length hp.1)
 have HCL := kp (coinV_length hc)
 have HC1 := kp (coinV_one c)
 clear hok hce hc hp hlk
 obtain ⟨xs, hxs⟩ : ∃ xs, xs = ptV p := ⟨_, rfl⟩
 obtain ⟨cs, hcs⟩ : ∃ cs, cs = coinV c := ⟨_, rfl⟩
 rw [coinA, ← hcs]
 rw [coinA, ← hcs] at HLK
 rw [← hcs] at HCL HC1
 rw [ptA, ← hxs]
 rw [ptA, ← hxs] at HLK
 rw [← hxs] at HX
 clear hxs hcs
 obtain ⟨z, hz⟩ : ∃ z, z = w.heap.size := ⟨_, rfl⟩
 have hg : g < z := by rw [hz]; exact h.ltg
 have hb : b < z := by rw [hz]; exact h.ltb
 have HZ := kp hz
 rw [← hz]
 clear h hz
 go_enter Tryz.func77, Tryz.ntmps77
 go_wp2_with (first | (with_reducible refine wpl_box (o := ⟨some 3, _, _, _, _, _⟩) rfl rfl rfl ?_))
 intro w1 hb1 hbw1 hsz1
 rw [← HZ.out] at hb1 hbw1 hsz1 ⊢
 go_wp2_with (first | (with_reducible refine wpl_alloc (o := ⟨some 4, _, _, _, _, _⟩) rfl rfl zero_coin ?_))
 intro w2 hb2 hbw2 hsz2
 have HB1 := kp (hb1.below hbw2 (by omega))
 have HB2 := kp hb2
 have HBW := kp (hbw1.trans (hbw2.mono (by omega)))
 have HSZ := kp hsz2
 have HC2 := kp (HC.out.below HBW.out hg hb)
 clear hb1 hb2 hbw1 hbw2 hsz1 hsz2 HC
 repeat' (first | (with_reducible refine wp_phase (id := 1) (newC w2 77 (coinV noCoin) cs) [9, 10] [(0,2),(0,2),(0,2),(0,2),(0,2),(0,2),(0,2),(0,2),(0,2),(0,0),(1,1),(0,2)] (by kernel_rfl) (by kernel_rfl) ?_ ?_) | go_values | go_skip | go_guarded | go_step | go_upon | go_back)
 ·exact newC.start
 have HF := kp (show ∀ k w', newC w2 77 (coinV noCoin) cs k w' → w'.cell? ⟨g, 0, none⟩ = some (.map (some b)) from fun k w' h => (HC2.out.call (newC.low k w' h)).blk.at_ rfl)
 have HL := kp (show ∀ k w', newC w2 77 (coinV noCoin) cs k w' → (Instr.lookup 88 (.map (some b)) (.agg xs.toArray) true).run Tryz.prog w' = .ok (.tuple #[.agg cs.toArray, .bool ok]) w' from fun k w' h => HLK.out w' (HC2.out.call (newC.low k w' h)))
 have HX1 := kp (show ∀ k w', newC w2 77 (coinV noCoin) cs k w' → Blk w' z 69 xs from fun k w' h => HB1.out.call (newC.low k w' h))
 refine ph_value rfl (by first | rfl | go_simp) (fun k_ _ _ w_ hC_ => by first | (go_simp; rfl) | (go_simp; done) | rfl) (fun K hK => ?_)
 go_simp
 refine hK _ ?_
 clear hK K
 refine ph_value rfl (by first | rfl | go_simp) (fun k_ _ _ w_ hC_ => by first | (go_simp; rfl) | (go_simp; done) | rfl) (fun K hK => ?_)
 go_simp
 refine hK _ ?_
 clear hK K
 refine ph_value rfl (by first | rfl | go_simp) (fun k_ _ _ w_ hC_ => by first | (go_simp; rfl) | (go_simp; done) | rfl) (fun K hK => ?_)
 go_simp
 refine hK _ ?_
 clear hK K
 refine ph_value rfl (by first | rfl | go_simp) (fun k_ _ _ w_ hC_ => by have c1 := HF.out _ _ hC_; first | (go_simp; rfl) | (go_simp; done) | rfl) (fun K hK => ?_)
 go_simp
 refine hK _ ?_
 clear hK K
 refine ph_load rfl rfl rfl row_point (fun k _ _ w h => HX1.out k w h) rfl HX.out ?_
 (intro K hK; go_simp; refine hK _ ?_; clear hK K)
 refine ph_value rfl (by first | rfl | go_simp) (fun k_ _ _ w_ hC_ => by have c1 := HL.out _ _ hC_; first | (go_simp; rfl) | (go_simp; done) | rfl) (fun K hK => ?_)
 go_simp
 refine hK _ ?_
 clear hK K
 refine ph_value rfl (by first | rfl | go_simp) (fun k_ _ _ w_ hC_ => by first | (go_simp; rfl) | (go_simp; done) | rfl) (fun K hK => ?_)
 go_simp
 refine hK _ ?_
 clear hK K
 refine ph_value rfl (by first | rfl | go_simp) (fun k_ _ _ w_ hC_ => by first | (go_simp; rfl) | (go_simp; done) | rfl) (fun K hK => ?_)
 go_simp
 refine hK _ ?_
 clear hK K
 refine ph_value rfl (by first | rfl | go_simp) (fun k_ _ _ w_ hC_ => by first | (go_simp; rfl) | (go_simp; done) | rfl) (fun K hK => ?_)
 go_simp
 refine hK _ ?_
 clear hK K
 refine ph_alloc 0 rfl rfl rfl rfl rfl zero_coin newC.lay ?_
 (intro K hK; go_simp; refine hK _ ?_; clear hK K)
 refine ph_store 1 rfl rfl rfl rfl rfl row_coin rfl rfl HCL.out HC1.out (newC.put (coinV_length noCoin_ok)) ?_
 (intro K hK; go_simp; refine hK _ ?_; clear hK K)
 refine ph_value rfl (by first | rfl | go_simp) (fun k_ _ _ w_ hC_ => by first | (go_simp; rfl) | (go_simp; done) | rfl) (fun K hK => ?_)
 go_simp
 refine hK _ ?_
 clear hK K
 refine ph_nil ?_
 intro w3 ⟨hl3, hs3, hx3⟩
 have H3X := kp hx3
 have H3R := kp (HB2.out.call hl3)
 have HL3 := kp (HBW.out.trans (hl3.mono (by rw [HSZ.out]; omega)))
 have HS3 := kp (show z + 3 = w3.heap.size by rw [hs3, HSZ.out])
 rw [HSZ.out] at H3X ⊢
 clear hl3 hs3 hx3 HF HL HX1 HC2 HB1 HB2 HBW HLK
 go_wp2_with (first | (with_reducible refine wlb 17 row_coin H3X.out HCL.out ?_) | (with_reducible refine wpl_storeb (o := ⟨none, .store _ _ _, _, _, _, _⟩) rfl rfl row_coin H3R.out rfl rfl (coinV_length noCoin_ok) HCL.out HC1.out ?_))
 intro w4 hb4 hg4 hs4
 have H4R := kp hb4
 have HL4 := kp (HL3.out.grown hg4 (by have := HS3.out; omega) (fun k hk => by cases hk; omega))
 clear hb4 hg4 hs4
 go_wp2_with fail
 refine ret_cell_tmp rfl row_coin H4R.out rfl HCL.out rfl rfl ?_
 exact ⟨rfl, HL4.out⟩
theorem new_any (w : World) : Calls Tryz.prog 14 #[] w fun e w' => ∃ g b, e = .returned (.pointer (some ⟨g, 0, none⟩)) ∧ CoinsAt w' g b [] 0 ∧ w.heap.size ≤ g ∧ w.heap.size ≤ b ∧ Below w.heap.size w w' := by
 have hmm : ∀ w, (Instr.makeMap 88 none).run Tryz.prog w = .ok (.map (some w.heap.size)) (w.alloc (.map #[] 0)) := fun w => rfl
 go_enter Tryz.func14, Tryz.ntmps14
 go_wp2
 go_ret
 refine ⟨w.heap.size + 1, w.heap.size, rfl, ⟨?_, ⟨#[], 0, ?_, MapOK.empty _ _ _, rfl⟩, ⟨by simp, by simp⟩, by omega⟩, by omega, by omega, ((Below.refl _ _).alloc (Nat.le_refl _) _).alloc (by simp) _⟩
 ·have := heap_alloc_new (w.alloc (.map #[] 0)) (.cells #[.map (some w.heap.size), .int .u64 0] 90)
  simpa [Blk] using this
 ·have h1 := heap_alloc_new w (.map #[] 0)
  have h2 := Below.heap_alloc (w.alloc (.map #[] 0)) (.cells #[.map (some w.heap.size), .int .u64 0] 90) w.heap.size (by simp)
  exact h2.trans h1
theorem clen_any (g b : Nat) (L : CoinsL) (s : Int) (w : World) (h : CoinsAt w g b L s) :
  Calls Tryz.prog 35 #[.pointer (some ⟨g, 0, none⟩)] w fun e w' => e = .returned (.int .i64 L.length) ∧ w = w' := by
 obtain ⟨hb1, ⟨es, clock, h3, h4, h5⟩, h6, h7⟩ := h
 have c1 : w.cell? ⟨g, 0, none⟩ = some (.map (some b)) := hb1.at_ rfl
 have e : es.size = L.length := by rw [← kvs_length, h5]; simp [encC]
 have hl := fun ty => run_len_map w 88 ty b es clock Tryz.underlying88 h3
 simp only [e] at hl
 clear hb1 h3 h4 h5 h6 h7 e
 go_enter Tryz.func35, Tryz.ntmps35
 go_wp2
 go_ret
 exact ⟨rfl, rfl⟩
theorem csum_any (g b : Nat) (L : CoinsL) (s : Int) (w : World) (h : CoinsAt w g b L s) :
  Calls Tryz.prog 11 #[.pointer (some ⟨g, 0, none⟩)] w fun e w' => e = .returned (.int .u64 s) ∧ w = w' := by
 have c1 : w.cell? ⟨g, 1, none⟩ = some (.int .u64 s) := h.blk.at_ rfl
 clear h
 go_enter Tryz.func11, Tryz.ntmps11
 go_wp2
 go_ret
 exact ⟨rfl, rfl⟩
def addE (a b : Int) : Int × Int := if a ≤ 4611686018427387904 ∧ b ≤ 4611686018427387904 ∧ a + b ≤ 4611686018427387904 then (a + b, 0) else (0, 6)
theorem cadd_any (a b : Int) (w : World) (ha : 0 ≤ a) (hb : 0 ≤ b) :
  Calls Tryz.prog 64 #[.int .u64 a, .int .u64 b] w fun e w' => e = .returned (.tuple #[.int .u64 (addE a b).1, .int .i64 (addE a b).2]) ∧ Below w.heap.size w w' := add_any a b w ha hb
def putR (L : CoinsL) (s : Int) (p : PtK) (c : CoinV) : Int :=
 if p.2 < 0 ∨ 16 ≤ p.2 ∨ c.2 = 0 ∨ 4611686018427387904 < c.2 then 5 else if (lookC L p).isSome then 24 else if 256 ≤ L.length then 18 else (addE s c.2).2
theorem addE_bd (a b : Int) (ha : 0 ≤ a) (hb : 0 ≤ b) : 0 ≤ (addE a b).1 ∧ (addE a b).1 ≤ 4611686018427387904 ∧ 0 ≤ (addE a b).2 ∧ (addE a b).2 ≤ 6 ∧ ((addE a b).2 = 0 → (addE a b).1 = a + b) := by
 unfold addE; split <;> simp <;> omega
theorem lookC_none {L : CoinsL} {p : PtK} (h : (lookC L p).isSome = false) : ∀ e ∈ L, e.1 ≠ p := by
 intro e he hk
 unfold lookC at h
 cases hf : L.find? (fun e => e.1 == p) with
 | none => exact List.find?_eq_none.1 hf e he (by simpa using hk)
 | some x => rw [hf] at h; simp at h
def putC (w0 : World) (g b : Nat) (es : Array MapEntry) (clock : Nat) (p : PtK) (c : CoinV) (s s2 : Int) (k : Nat) (w : World) : Prop :=
 Touched [g, b] w0 w ∧ w.heap.size = w0.heap.size ∧
 w.heap[b]? = some (if k = 0 then .map es clock else if k = 1 then .map (es.push { key := ptA p, val := coinA noCoin, born := clock }) (clock + 1)
  else .map ((es.push { key := ptA p, val := coinA noCoin, born := clock }).modify es.size fun e => { e with val := coinA c }) (clock + 1)) ∧
 Blk w g 90 [.map (some b), .int .u64 (if k = 3 then s2 else s)]
section
variable {w0 w : World} {g b : Nat} {es : Array MapEntry} {clock : Nat} {p : PtK} {c : CoinV} {s s2 : Int} {lx : Lit}
theorem putC.start (h1 : w0.heap[b]? = some (.map es clock)) (h2 : Blk w0 g 90 [.map (some b), .int .u64 s]) : putC w0 g b es clock p c s s2 0 w0.drew :=
 ⟨Touched.of_below (Drawn.all (Drawn.one w0)), rfl, h1, h2⟩
theorem putC.entry (h : putC w0 g b es clock p c s s2 0 w) (hgb : g ≠ b) : putC w0 g b es clock p c s s2 1 (withBlk w b (.map (es.push { key := ptA p, val := coinA noCoin, born := clock }) (clock + 1))) := by
 obtain ⟨h1, h2, h3, h4⟩ := h
 exact ⟨h1.grown (withBlk_grown _ _ _) (.inl (by simp)), by rw [withBlk_size, h2], withBlk_heap h3, h4.grown (withBlk_grown _ _ _) (by simpa using hgb)⟩
theorem putC.fill (h : putC w0 g b es clock p c s s2 1 w) (hgb : g ≠ b) : putC w0 g b es clock p c s s2 2 (withBlk w b (.map ((es.push { key := ptA p, val := coinA noCoin, born := clock }).modify es.size fun e => { e with val := coinA c }) (clock + 1))) := by
 obtain ⟨h1, h2, h3, h4⟩ := h
 exact ⟨h1.grown (withBlk_grown _ _ _) (.inl (by simp)), by rw [withBlk_size, h2], withBlk_heap h3, h4.grown (withBlk_grown _ _ _) (by simpa using hgb)⟩
theorem putC.sum (h : putC w0 g b es clock p c s s2 2 w) (hgb : g ≠ b) : putC w0 g b es clock p c s s2 3 (w.setCell ⟨g, 1, none⟩ (.int .u64 s2)) := by
 obtain ⟨h1, h2, h3, h4⟩ := h
 exact ⟨h1.grown (grown_set w g 1 _) (.inl (by simp)), by simpa using h2, ((grown_set w g 1 (.int .u64 s2)).block b (Array.getElem?_eq_some_iff.1 h3).1 (by simpa using fun e => hgb e.symm)).trans h3, h4.set_ 1 (.int .u64 s2)⟩
theorem putC.run0 (h : putC w0 g b es clock p c s s2 0 w) (hm : MapOK Tryz.prog 69 es clock) (hx : keyOf Tryz.prog 69 (ptA p) = some lx) (hno : ∀ q ∈ kvs es, q.1 ≠ ptA p) :
  (Instr.mapEntry 88 (.map (some b)) (ptA p)).run Tryz.prog w = .ok (.tuple #[coinA noCoin, goInt clock]) (withBlk w b (.map (es.push { key := ptA p, val := coinA noCoin, born := clock }) (clock + 1))) :=
 run_mapEntry_no kl_point Tryz.underlying88 h.2.2.1 hm hx hno zeroV_coin
theorem putC.run1 (h : putC w0 g b es clock p c s s2 1 w) (hm : MapOK Tryz.prog 69 es clock) (hx : keyOf Tryz.prog 69 (ptA p) = some lx) (hno : ∀ q ∈ kvs es, q.1 ≠ ptA p) :
  (Instr.entryStore 88 (.map (some b)) (.int .i64 clock) (coinA c)).run Tryz.prog w = .ok () (withBlk w b (.map ((es.push { key := ptA p, val := coinA noCoin, born := clock }).modify es.size fun e => { e with val := coinA c }) (clock + 1))) :=
 run_entryStore Tryz.underlying88 h.2.2.1 (hm.push hx hno _) (j := es.size) (en := { key := ptA p, val := coinA noCoin, born := clock }) (by simp) (coinA c)
theorem putC.done {L : CoinsL} (h : putC w0 g b es clock p c s s2 3 w) (hgb : g ≠ b) (hm : MapOK Tryz.prog 69 es clock) (hx : keyOf Tryz.prog 69 (ptA p) = some lx) (hno : ∀ q ∈ kvs es, q.1 ≠ ptA p) (hL : kvs es = encC L) (hLO : LOK (L ++ [(p, c)])) :
  CoinsAt w g b (L ++ [(p, c)]) s2 := by
 obtain ⟨h1, h2, h3, h4⟩ := h
 refine ⟨h4, ⟨_, _, h3, (hm.push hx hno _).modify _ _, ?_⟩, hLO, hgb⟩
 rw [kvs_modify (en := { key := ptA p, val := coinA noCoin, born := clock }) (by simp), kvs_push, hL]
 have : es.size = (encC L).length := by rw [← hL, kvs_length]
 rw [this]
 simp [encC]
end
theorem put_any (g b : Nat) (L : CoinsL) (s : Int) (p : PtK) (c : CoinV) (w : World) (h : CoinsAt w g b L s) (hp : PtOK p) (hc : CoinOK c) (hs0 : 0 ≤ s) (hs1 : s ≤ 4611686018427387904) :
  Calls Tryz.prog 32 #[.pointer (some ⟨g, 0, none⟩), ptA p, coinA c] w fun e w' => e = .returned (.int .i64 (putR L s p c)) ∧ Touched [g, b] w w' ∧
   (putR L s p c = 0 → CoinsAt w' g b (L ++ [(p, c)]) (addE s c.2).1) ∧ (putR L s p c ≠ 0 → CoinsAt w' g b L s) := by
 obtain ⟨d, hd, hde, -⟩ := h.look hp
 obtain ⟨ok, hok⟩ : ∃ ok, ok = (lookC L p).isSome := ⟨_, rfl⟩
 have hlk : ∀ w', CoinsAt w' g b L s → (Instr.lookup 88 (.map (some b)) (ptA p) true).run Tryz.prog w' = .ok (.tuple #[coinA d, .bool ok]) w' := by
  intro w' h'
  obtain ⟨c', _, e, h2⟩ := h'.look hp
  rw [hde, ← e, hok]; exact h2
 have HLK := kp hlk
 have HC := kp h
 have HP := kp hp; have HCO := kp hc
 have HX := kp (ptV_length hp.1)
 have HY := kp (coinV_length hc)
 have HDL := kp (coinV_length hd)
 have HD1 := kp (coinV_one d)
 have HOK := kp hok
 have HPI := kp (ptV_ix hp.1)
 have HCI := kp (show (coinV c)[32]? = some (.int .u64 c.2) by unfold coinV; rw [List.getElem?_append_right (by simp [hc.1])]; simp [hc.1])
 have hpw := bounds_i64 hp.2
 have hc0 := hc.2.1
 have hc1 := hc.2.2
 obtain ⟨r, hr⟩ : ∃ r, r = putR L s p c := ⟨_, rfl⟩
 rw [← hr]
 have HR := kp hr
 clear hok hde hc hp hlk hd hr
 obtain ⟨xs, hxs⟩ : ∃ xs, xs = ptV p := ⟨_, rfl⟩
 obtain ⟨ys, hys⟩ : ∃ ys, ys = coinV c := ⟨_, rfl⟩
 obtain ⟨cs, hcs⟩ : ∃ cs, cs = coinV d := ⟨_, rfl⟩
 rw [coinA, ← hcs] at HLK
 rw [← hcs] at HDL HD1
 rw [ptA, ← hxs, coinA, ← hys]
 rw [ptA, ← hxs] at HLK
 rw [← hxs] at HX HPI
 rw [← hys] at HY HCI
 have HXE := kp hxs
 have HYE := kp hys
 clear hxs hcs hys
 obtain ⟨z, hz⟩ : ∃ z, z = w.heap.size := ⟨_, rfl⟩
 have hg : g < z := by rw [hz]; exact h.ltg
 have hb : b < z := by rw [hz]; exact h.ltb
 have HZ := kp hz
 have hal := addE_bd s c.2 hs0 hc0
 have ha := fun w => cadd_any s c.2 w hs0 hc0
 obtain ⟨ae, hae⟩ : ∃ ae, ae = addE s c.2 := ⟨_, rfl⟩
 rw [← hae] at hal ha ⊢
 have HAE := kp hae
 have HA := kp ha
 obtain ⟨pi, hpi⟩ : ∃ pi, pi = p.2 := ⟨_, rfl⟩
 obtain ⟨ci, hci⟩ : ∃ ci, ci = c.2 := ⟨_, rfl⟩
 rw [← hpi] at HPI hpw
 rw [← hci] at HCI hc0 hc1 HA
 have HPE := kp hpi
 have HCE := kp hci
 obtain ⟨s2, ec⟩ := ae
 simp only at HA hal
 clear h hz ha hae hpi hci
 go_enter Tryz.func32, Tryz.ntmps32
 go_wp2_with (first | (with_reducible refine wpl_box (o := ⟨some 4, _, _, _, _, _⟩) rfl rfl rfl ?_))
 intro w1 hb1 hbw1 hsz1
 rw [← HZ.out] at hb1 hbw1 hsz1 ⊢
 go_wp2_with (first | (with_reducible refine wpl_box (o := ⟨some 5, _, _, _, _, _⟩) rfl rfl rfl ?_))
 intro w2 hb2 hbw2 hsz2
 have HB1 := kp (hb1.below hbw2 (by omega))
 have HB2 := kp hb2
 have HBW := kp (hbw1.trans (hbw2.mono (by omega)))
 have HSZ := kp hsz2
 have HC2 := kp (HC.out.below HBW.out hg hb)
 clear hb1 hb2 hbw1 hbw2 hsz1 hsz2
 repeat' (first | (with_reducible refine wp_phase (id := 1) (newC w2 77 (coinV noCoin) cs) [9, 10] [(0,2),(0,2),(0,2),(0,2),(0,2),(0,2),(0,2),(0,2),(0,2),(0,0),(1,1),(0,2)] (by kernel_rfl) (by kernel_rfl) ?_ ?_) | go_values | go_skip | go_guarded | go_step | go_upon | go_back)
 ·exact newC.start
 have HF := kp (show ∀ k w', newC w2 77 (coinV noCoin) cs k w' → w'.cell? ⟨g, 0, none⟩ = some (.map (some b)) from fun k w' h => (HC2.out.call (newC.low k w' h)).blk.at_ rfl)
 have HL := kp (show ∀ k w', newC w2 77 (coinV noCoin) cs k w' → (Instr.lookup 88 (.map (some b)) (.agg xs.toArray) true).run Tryz.prog w' = .ok (.tuple #[.agg cs.toArray, .bool ok]) w' from fun k w' h => HLK.out w' (HC2.out.call (newC.low k w' h)))
 have HX1 := kp (show ∀ k w', newC w2 77 (coinV noCoin) cs k w' → Blk w' z 69 xs from fun k w' h => HB1.out.call (newC.low k w' h))
 refine ph_value rfl (by first | rfl | go_simp) (fun k_ _ _ w_ hC_ => by first | (go_simp; rfl) | (go_simp; done) | rfl) (fun K hK => ?_)
 go_simp
 refine hK _ ?_
 clear hK K
 refine ph_value rfl (by first | rfl | go_simp) (fun k_ _ _ w_ hC_ => by first | (go_simp; rfl) | (go_simp; done) | rfl) (fun K hK => ?_)
 go_simp
 refine hK _ ?_
 clear hK K
 refine ph_value rfl (by first | rfl | go_simp) (fun k_ _ _ w_ hC_ => by first | (go_simp; rfl) | (go_simp; done) | rfl) (fun K hK => ?_)
 go_simp
 refine hK _ ?_
 clear hK K
 refine ph_value rfl (by first | rfl | go_simp) (fun k_ _ _ w_ hC_ => by have c1 := HF.out _ _ hC_; first | (go_simp; rfl) | (go_simp; done) | rfl) (fun K hK => ?_)
 go_simp
 refine hK _ ?_
 clear hK K
 refine ph_load rfl rfl rfl row_point (fun k _ _ w h => HX1.out k w h) rfl HX.out ?_
 (intro K hK; go_simp; refine hK _ ?_; clear hK K)
 refine ph_value rfl (by first | rfl | go_simp) (fun k_ _ _ w_ hC_ => by have c1 := HL.out _ _ hC_; first | (go_simp; rfl) | (go_simp; done) | rfl) (fun K hK => ?_)
 go_simp
 refine hK _ ?_
 clear hK K
 refine ph_value rfl (by first | rfl | go_simp) (fun k_ _ _ w_ hC_ => by first | (go_simp; rfl) | (go_simp; done) | rfl) (fun K hK => ?_)
 go_simp
 refine hK _ ?_
 clear hK K
 refine ph_value rfl (by first | rfl | go_simp) (fun k_ _ _ w_ hC_ => by first | (go_simp; rfl) | (go_simp; done) | rfl) (fun K hK => ?_)
 go_simp
 refine hK _ ?_
 clear hK K
 refine ph_value rfl (by first | rfl | go_simp) (fun k_ _ _ w_ hC_ => by first | (go_simp; rfl) | (go_simp; done) | rfl) (fun K hK => ?_)
 go_simp
 refine hK _ ?_
 clear hK K
 refine ph_alloc 0 rfl rfl rfl rfl rfl zero_coin newC.lay ?_
 (intro K hK; go_simp; refine hK _ ?_; clear hK K)
 refine ph_store 1 rfl rfl rfl rfl rfl row_coin rfl rfl HDL.out HD1.out (newC.put (coinV_length noCoin_ok)) ?_
 (intro K hK; go_simp; refine hK _ ?_; clear hK K)
 refine ph_value rfl (by first | rfl | go_simp) (fun k_ _ _ w_ hC_ => by first | (go_simp; rfl) | (go_simp; done) | rfl) (fun K hK => ?_)
 go_simp
 refine hK _ ?_
 clear hK K
 refine ph_nil ?_
 intro w3 ⟨hl3, hs3, hx3⟩
 have HB1' := kp (HB1.out.call hl3)
 have HB2' := kp (HB2.out.call hl3)
 have HL3 := kp (HBW.out.trans (hl3.mono (by rw [HSZ.out]; omega)))
 have HS3 := kp (show z + 3 = w3.heap.size by rw [hs3, HSZ.out])
 have HC3 := kp (HC2.out.call hl3)
 clear hl3 hs3 hx3 HF HL HX1 HC2 HB1 HB2 HBW HLK
 generalize w2.heap.size = xa
 repeat' (first | (with_reducible refine wp_phase (id := 2) (fun (_ : Nat) w' => Below w3.heap.size w3 w') [] [(0,0),(0,0),(0,0),(0,0),(0,0),(0,0),(0,0),(0,0),(0,0),(0,0),(0,0),(0,0)] (by kernel_rfl) (by kernel_rfl) ?_ ?_) | go_values | go_skip | go_guarded | go_step | go_upon | go_back)
 ·exact Drawn.all (Drawn.one w3)
 have HF1 := kp (show ∀ w', Below w3.heap.size w3 w' → w'.cell? ⟨g, 1, none⟩ = some (.int .u64 s) from fun w' h => (HC3.out.call h).blk.at_ rfl)
 have HF2 := kp (show ∀ w', Below w3.heap.size w3 w' → w'.cell? ⟨z + 1, 32, none⟩ = some (.int .u64 ci) from fun w' h => (HB2'.out.call h).at_ HCI.out)
 refine ph_value rfl (by first | rfl | go_simp) (fun k_ _ _ w_ hC_ => by first | (go_simp; rfl) | (go_simp; done) | rfl) (fun K hK => ?_)
 go_simp
 refine hK _ ?_
 clear hK K
 refine ph_value rfl (by first | rfl | go_simp) (fun k_ _ _ w_ hC_ => by first | (go_simp; rfl) | (go_simp; done) | rfl) (fun K hK => ?_)
 go_simp
 refine hK _ ?_
 clear hK K
 refine ph_value rfl (by first | rfl | go_simp) (fun k_ _ _ w_ hC_ => by first | (go_simp; rfl) | (go_simp; done) | rfl) (fun K hK => ?_)
 go_simp
 refine hK _ ?_
 clear hK K
 refine ph_value rfl (by first | rfl | go_simp) (fun k_ _ _ w_ hC_ => by have c1 := HF1.out _ hC_; first | (go_simp; rfl) | (go_simp; done) | rfl) (fun K hK => ?_)
 go_simp
 refine hK _ ?_
 clear hK K
 refine ph_value rfl (by first | rfl | go_simp) (fun k_ _ _ w_ hC_ => by first | (go_simp; rfl) | (go_simp; done) | rfl) (fun K hK => ?_)
 go_simp
 refine hK _ ?_
 clear hK K
 refine ph_value rfl (by first | rfl | go_simp) (fun k_ _ _ w_ hC_ => by have c1 := HF2.out _ hC_; first | (go_simp; rfl) | (go_simp; done) | rfl) (fun K hK => ?_)
 go_simp
 refine hK _ ?_
 clear hK K
 refine ph_call rfl (by first | rfl | go_simp) (fun w => by first | rfl | (go_simp; rfl) | go_simp) (fun k _ _ w h => (HA.out w).mono fun e w' ⟨he, hb⟩ => ⟨he, below_step h h.size hb⟩) ?_
 (intro K hK; go_simp; refine hK _ ?_; clear hK K)
 refine ph_value rfl (by first | rfl | go_simp) (fun k_ _ _ w_ hC_ => by first | (go_simp; rfl) | (go_simp; done) | rfl) (fun K hK => ?_)
 go_simp
 refine hK _ ?_
 clear hK K
 refine ph_value rfl (by first | rfl | go_simp) (fun k_ _ _ w_ hC_ => by first | (go_simp; rfl) | (go_simp; done) | rfl) (fun K hK => ?_)
 go_simp
 refine hK _ ?_
 clear hK K
 refine ph_value rfl (by first | rfl | go_simp) (fun k_ _ _ w_ hC_ => by first | (go_simp; rfl) | (go_simp; done) | rfl) (fun K hK => ?_)
 go_simp
 refine hK _ ?_
 clear hK K
 refine ph_value rfl (by first | rfl | go_simp) (fun k_ _ _ w_ hC_ => by first | (go_simp; rfl) | (go_simp; done) | rfl) (fun K hK => ?_)
 go_simp
 refine hK _ ?_
 clear hK K
 refine ph_value rfl (by first | rfl | go_simp) (fun k_ _ _ w_ hC_ => by first | (go_simp; rfl) | (go_simp; done) | rfl) (fun K hK => ?_)
 go_simp
 refine hK _ ?_
 clear hK K
 refine ph_nil ?_
 intro w4 hl4
 have c1 := (HB1'.out.call hl4).at_ HPI.out
 have c2 := (HB2'.out.call hl4).at_ HCI.out
 have H1 := kp (HB1'.out.call hl4)
 have H2 := kp (HB2'.out.call hl4)
 have HC4 := kp (HC3.out.call hl4)
 have HL4 := kp (HL3.out.trans (hl4.mono (by have := HS3.out; omega)))
 have HT4 := kp (Touched.of_below (l := [g, b]) (by rw [← HZ.out]; exact HL4.out))
 clear HF1 HF2 hl4 HB1' HB2' HL3 HS3 HC3
 generalize hz1 : z + 1 = z1 at *
 have HZ1 := kp hz1
 clear hz1
 by_cases h1 : pi < 0
 ·have e : r = 5 := by rw [HR.out, putR, if_pos (.inl (by rw [← HPE.out]; exact h1))]
  have HE := kp e; clear e
  go_wp2_with fail
  go_ret
  exact ⟨ret_int HE.out.symm, HT4.out, fun h => by have := HE.out; omega, fun _ => HC4.out⟩
 by_cases h2 : 16 ≤ pi
 ·have e : r = 5 := by rw [HR.out, putR, if_pos (.inr (.inl (by rw [← HPE.out]; exact h2)))]
  have HE := kp e; clear e
  go_wp2_with fail
  go_ret
  exact ⟨ret_int HE.out.symm, HT4.out, fun h => by have := HE.out; omega, fun _ => HC4.out⟩
 by_cases h3 : ci = 0
 ·have e : r = 5 := by rw [HR.out, putR, if_pos (.inr (.inr (.inl (by rw [← HCE.out]; exact h3))))]
  have HE := kp e; clear e
  have hb3 : (ci == 0) = true := by simpa using h3
  clear h3
  go_wp2_with fail
  go_ret
  exact ⟨ret_int HE.out.symm, HT4.out, fun h => by have := HE.out; omega, fun _ => HC4.out⟩
 have hb3 : (ci == 0) = false := beq_eq_false_iff_ne.2 h3
 by_cases h4 : 4611686018427387904 < ci
 ·have e : r = 5 := by rw [HR.out, putR, if_pos (.inr (.inr (.inr (by rw [← HCE.out]; exact h4))))]
  have HE := kp e; clear e
  clear h3
  go_wp2_with fail
  go_ret
  exact ⟨ret_int HE.out.symm, HT4.out, fun h => by have := HE.out; omega, fun _ => HC4.out⟩
 have HN := kp (show ¬ (p.2 < 0 ∨ 16 ≤ p.2 ∨ c.2 = 0 ∨ 4611686018427387904 < c.2) by rw [← HPE.out, ← HCE.out]; omega)
 clear h3
 cases ok
 case true =>
  have e : r = 24 := by rw [HR.out, putR, if_neg HN.out, ← HOK.out, if_pos rfl]
  have HE := kp e; clear e
  go_wp2_with fail
  go_ret
  exact ⟨ret_int HE.out.symm, HT4.out, fun h => by have := HE.out; omega, fun _ => HC4.out⟩
 case false =>
  have c3 : w4.cell? ⟨g, 0, none⟩ = some (.map (some b)) := HC4.out.blk.at_ rfl
  obtain ⟨es, clock, hm1, hm2, hm3⟩ := HC4.out.map
  have ee : es.size = L.length := by rw [← kvs_length, hm3]; simp [encC]
  have hl := fun ty => run_len_map w4 88 ty b es clock Tryz.underlying88 hm1
  simp only [ee] at hl
  obtain ⟨n, hn⟩ : ∃ n, n = L.length := ⟨_, rfl⟩
  rw [← hn] at hl
  have HM1 := kp hm1; have HM2 := kp hm2; have HM3 := kp hm3
  have HNL := kp hn
  clear hm1 hm2 hm3 ee hn
  by_cases h5 : 256 ≤ n
  ·have e : r = 18 := by rw [HR.out, putR, if_neg HN.out, ← HOK.out, if_neg (by simp), ← HNL.out, if_pos h5]
   have HE := kp e; clear e
   go_wp2_with fail
   go_ret
   exact ⟨ret_int HE.out.symm, HT4.out, fun h => by have := HE.out; omega, fun _ => HC4.out⟩
  have e : r = ec := by rw [HR.out, putR, if_neg HN.out, ← HOK.out, if_neg (by simp), ← HNL.out, if_neg h5, ← HAE.out]
  have HE := kp e; clear e
  by_cases h6 : ec = 0
  ·have hb6 : (ec != 0) = false := bne_eq_false_iff_eq.2 h6
   have H6 := kp h6
   clear h6
   obtain ⟨lx, hx⟩ := keyOf_pt p HP.out
   have hno : ∀ q ∈ kvs es, q.1 ≠ ptA p := by
    intro q hq e
    rw [HM3.out] at hq
    obtain ⟨en, hen, rfl⟩ := List.mem_map.1 hq
    exact lookC_none HOK.out.symm en hen (ptA_inj (HC4.out.ok.1 en hen).1.1 HP.out.1 e)
   have hlo : LOK (L ++ [(p, c)]) := by
    refine ⟨fun e he => ?_, ?_⟩
    ·rcases List.mem_append.1 he with he | he
     ·exact HC4.out.ok.1 e he
     ·have : e = (p, c) := by simpa using he
      subst this; exact ⟨HP.out, HCO.out⟩
    ·rw [List.map_append, List.nodup_append]
     refine ⟨HC4.out.ok.2, by simp, fun a ha b' hb' e => ?_⟩
     obtain ⟨en, hen, rfl⟩ := List.mem_map.1 ha
     have hb2 : b' = p := by simpa using hb'
     exact lookC_none HOK.out.symm en hen (e.trans hb2)
   have HXK := kp hx; have HNO := kp hno; have HLO := kp hlo
   clear hx hno hlo
   have hgb := HC4.out.ne
   have HGB := kp hgb
   clear hgb
   go_wp2_with fail
   clear hl c1 c2
   repeat' (first | (with_reducible refine wp_phase (id := 11) (putC w4 g b es clock p c s s2) [8, 10, 13] [(0,3),(0,3),(0,3),(0,3),(0,3),(0,3),(0,3),(0,3),(0,0),(0,3),(1,1),(0,3),(0,3),(2,2)] (by kernel_rfl) (by kernel_rfl) ?_ ?_) | go_values | go_skip | go_guarded | go_step | go_upon | go_back)
   ·exact putC.start HM1.out HC4.out.blk
   clear c3
   have HF := kp (show ∀ k w', putC w4 g b es clock p c s s2 k w' → w'.cell? ⟨g, 0, none⟩ = some (.map (some b)) from fun k w' h => h.2.2.2.at_ rfl)
   have HX1 := kp (show ∀ k w', putC w4 g b es clock p c s s2 k w' → Blk w' z 69 xs from fun k w' h => (h.1.block z H1.out.lt (by simp; omega)).trans H1.out)
   have HX2 := kp (show ∀ k w', putC w4 g b es clock p c s s2 k w' → Blk w' z1 77 ys from fun k w' h => (h.1.block z1 H2.out.lt (by have := HZ1.out; simp; omega)).trans H2.out)
   have HR0 := kp (show ∀ w', putC w4 g b es clock p c s s2 0 w' → (Instr.mapEntry 88 (.map (some b)) (.agg xs.toArray)).run Tryz.prog w' = .ok (.tuple #[coinA noCoin, .int .i64 clock]) (withBlk w' b (.map (es.push { key := ptA p, val := coinA noCoin, born := clock }) (clock + 1))) from fun w' h => by
    have := h.run0 HM2.out HXK.out HNO.out
    rw [HXE.out]; exact this)
   have HR1 := kp (show ∀ w', putC w4 g b es clock p c s s2 1 w' → (Instr.entryStore 88 (.map (some b)) (.int .i64 clock) (.agg ys.toArray)).run Tryz.prog w' = .ok () (withBlk w' b (.map ((es.push { key := ptA p, val := coinA noCoin, born := clock }).modify es.size fun e => { e with val := coinA c }) (clock + 1))) from fun w' h => by
    have := h.run1 HM2.out HXK.out HNO.out
    rw [HYE.out]; exact this)
   refine ph_value rfl (by first | rfl | go_simp) (fun k_ _ _ w_ hC_ => by first | (go_simp; rfl) | (go_simp; done) | rfl) (fun K hK => ?_)
   go_simp
   refine hK _ ?_
   clear hK K
   refine ph_value rfl (by first | rfl | go_simp) (fun k_ _ _ w_ hC_ => by first | (go_simp; rfl) | (go_simp; done) | rfl) (fun K hK => ?_)
   go_simp
   refine hK _ ?_
   clear hK K
   refine ph_value rfl (by first | rfl | go_simp) (fun k_ _ _ w_ hC_ => by first | (go_simp; rfl) | (go_simp; done) | rfl) (fun K hK => ?_)
   go_simp
   refine hK _ ?_
   clear hK K
   refine ph_value rfl (by first | rfl | go_simp) (fun k_ _ _ w_ hC_ => by have c1 := HF.out _ _ hC_; first | (go_simp; rfl) | (go_simp; done) | rfl) (fun K hK => ?_)
   go_simp
   refine hK _ ?_
   clear hK K
   refine ph_load rfl rfl rfl row_point (fun k _ _ w h => HX1.out k w h) rfl HX.out ?_
   (intro K hK; go_simp; refine hK _ ?_; clear hK K)
   refine ph_value rfl (by first | rfl | go_simp) (fun k_ _ _ w_ hC_ => by first | (go_simp; rfl) | (go_simp; done) | rfl) (fun K hK => ?_)
   go_simp
   refine hK _ ?_
   clear hK K
   refine ph_load rfl rfl rfl row_coin (fun k _ _ w h => HX2.out k w h) rfl HY.out ?_
   (intro K hK; go_simp; refine hK _ ?_; clear hK K)
   refine ph_value rfl (by first | rfl | go_simp) (fun k_ _ _ w_ hC_ => by first | (go_simp; rfl) | (go_simp; done) | rfl) (fun K hK => ?_)
   go_simp
   refine hK _ ?_
   clear hK K
   refine ph_run 0 rfl rfl rfl (by first | rfl | go_simp) (fun w' hC => ⟨_, by (have hrun := HR0.out w' hC); first | (go_simp; rfl) | (go_simp; exact ⟨rfl, rfl⟩) | go_simp, hC.entry HGB.out⟩) ?_
   (intro K hK; go_simp; refine hK _ ?_; clear hK K)
   refine ph_value rfl (by first | rfl | go_simp) (fun k_ _ _ w_ hC_ => by first | (go_simp; rfl) | (go_simp; done) | rfl) (fun K hK => ?_)
   go_simp
   refine hK _ ?_
   clear hK K
   refine ph_runs 1 rfl rfl rfl (by first | rfl | go_simp) (fun w' hC => ⟨_, by (have hrun := HR1.out w' hC); first | (go_simp; rfl) | (go_simp; exact ⟨rfl, rfl⟩) | go_simp, hC.fill HGB.out⟩) ?_
   (intro K hK; go_simp; refine hK _ ?_; clear hK K)
   refine ph_value rfl (by first | rfl | go_simp) (fun k_ _ _ w_ hC_ => by first | (go_simp; rfl) | (go_simp; done) | rfl) (fun K hK => ?_)
   go_simp
   refine hK _ ?_
   clear hK K
   refine ph_value rfl (by first | rfl | go_simp) (fun k_ _ _ w_ hC_ => by first | (go_simp; rfl) | (go_simp; done) | rfl) (fun K hK => ?_)
   go_simp
   refine hK _ ?_
   clear hK K
   refine ph_runs 2 rfl rfl rfl (by first | rfl | go_simp) (fun w' hC => ⟨_, by (have hcl := hC.2.2.2.at_ (i := 1) rfl); (have hfz := hC.2.2.2.frozen 1); first | (go_simp; rfl) | (go_simp; exact ⟨rfl, rfl⟩) | go_simp, hC.sum HGB.out⟩) ?_
   (intro K hK; go_simp; refine hK _ ?_; clear hK K)
   refine ph_nil ?_
   intro w5 hC5
   have HC5 := kp hC5
   clear hC5
   go_wp2_with fail
   go_ret
   refine ⟨ret_int (HE.out.trans H6.out).symm, HT4.out.trans HC5.out.1, fun _ => HC5.out.done HGB.out HM2.out HXK.out HNO.out HM3.out HLO.out, fun h => absurd (HE.out.trans H6.out) h⟩
  ·have hb6 : (ec != 0) = true := bne_iff_ne.2 h6
   have H6 := kp h6
   clear h6
   go_wp2_with fail
   go_ret
   exact ⟨ret_int HE.out.symm, HT4.out, fun h => absurd (HE.out.symm.trans h) H6.out, fun _ => HC4.out⟩
end Go.Proofs.YtnnjjbkdjkjnpaaGreatDoor

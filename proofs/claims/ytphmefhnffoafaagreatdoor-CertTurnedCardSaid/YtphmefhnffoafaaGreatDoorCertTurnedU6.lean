/- The contracts of layer 3, ready for the laws: facts that last while memory grows; equality of digests. -/
import Derived.Test.YtphmefhnffoafaaGreatDoorCertTurnedU4
import Derived.Test.YtphmefhnffoafaaGreatDoorCertTurnedU5
import Derived.Stop.BytesEq
import Derived.Test.YtphmefhnffoafaaGreatDoorCertTurnedU1
import Derived.CallsIn
import Derived.OrdersIn
import Derived.RangeFuncCalls
set_option linter.unusedSimpArgs false
namespace Go.Proofs.YtphmefhnffoafaaGreatDoor
open Go.RowKit Go.Shelf
set_option linter.unusedVariables false
theorem Tabs.grow {w w' : World} (h : Tabs w) (k : Grow w w') : Tabs w' := h.below k
theorem Parts.grow {w w' : World} {A : Option Addr} {n : Nat} {ps : List (Value × List UInt8)} (h : Parts w w.heap.size A n ps) (k : Grow w w') : Parts w' w'.heap.size A n ps := (h.below k).more k.size
theorem eql_ids (a b : List UInt8) (ha : a.length = 32) (hb : b.length = 32) (w : World) : (binOp .eql 24 (.agg (a.map B).toArray) (.agg (b.map B).toArray)).run Tryz.prog w = .ok (.bool (a == b)) w :=
 run_eql_bytes w 24 5 32 Tryz.underlying24 (by kernel_rfl) (fun w => by
  obtain ⟨i, hi, hs⟩ := Option.map_eq_some_iff.1 (show (Tryz.prog.info? 5).map (·.size) = some 1 by kernel_rfl)
  simp [sizeOf, typeInfo, hi, hs]) a b ha hb
def Dig (xs : List Value) (d : List UInt8) : Prop := xs = d.map B ∧ d.length = 32
theorem Dig.sha (bs : List UInt8) : Dig ((sha bs).map B) (sha bs) := ⟨rfl, sha_length bs⟩
theorem Dig.len {xs : List Value} {d : List UInt8} (h : Dig xs d) : xs.length = 32 := by rw [h.1, List.length_map, h.2]
theorem Dig.one {xs : List Value} {d : List UInt8} (h : Dig xs d) : ∀ u ∈ xs, u.oneCell' = true := by rw [h.1]; exact all_bytes d
theorem Dig.eql {xs ys : List Value} {a b : List UInt8} (h : Dig xs a) (k : Dig ys b) (w : World) : (binOp .eql 24 (.agg xs.toArray) (.agg ys.toArray)).run Tryz.prog w = .ok (.bool (a == b)) w := by
 rw [h.1, k.1]; exact eql_ids a b h.2 k.2 w
def PartOK (w : World) (Bd : Nat) (p : Value × List UInt8) : Prop := ∃ A c, p.1 = .slice A p.2.length c ∧ p.2.length ≤ c ∧ Sl w Bd 1 A p.2.length (p.2.map B)
theorem part_mk {w : World} {Bd n c : Nat} {A : Option Addr} {bs : List UInt8} (h : Sl w Bd 1 A n (bs.map B)) (hc : n ≤ c) : PartOK w Bd (.slice A n c, bs) := by
 have e : bs.length = n := by have := h.len; simpa using this
 refine ⟨A, c, by rw [e], by rw [e]; exact hc, by rw [e]; exact h⟩
theorem parts_mk {w : World} {Bd n : Nat} {A : Option Addr} {ps : List (Value × List UInt8)} (h : Sl w Bd 1 A n (ps.map Prod.fst)) (hp : ∀ p ∈ ps, PartOK w Bd p) : Parts w Bd A n ps := ⟨h, hp⟩
theorem parts_blk {w : World} {g n : Nat} {t : TypeId} {ps : List (Value × List UInt8)} (h : Blk w g t (ps.map Prod.fst)) (hn : ps.length = n) (hp : ∀ p ∈ ps, PartOK w w.heap.size p) : Parts w w.heap.size (some ⟨g, 0, none⟩) n ps :=
 parts_mk (h.sl (by simp [hn])) hp
theorem dsum_any (A : Option Addr) (n c : Nat) (ps : List (Value × List UInt8)) {bs : List UInt8} {xs : List Value} (hx : Dig xs (sha bs)) (hcat : cat ps = bs) (w : World) (hp : Parts w w.heap.size A n ps) (hn : n ≤ 1000000) (hl : bs.length ≤ 1099511627776) (ht : Tabs w) :
  Calls Tryz.prog 52 #[.slice A n c] w fun e w' => e = .returned (.agg xs.toArray) ∧ Below w.heap.size w w' := by
 rw [hx.1, ← hcat]
 exact sum_any A n c ps w hp hn (by rw [hcat]; exact hl) ht
theorem wanted_none {o : Oper} {y : Nat → Option Bool} (h : o.guard = none) : Region.wanted o y = true := by unfold Region.wanted; rw [h]
def At (w : World) (g : Nat) (T : TypeId) (n : Nat) (xs : List Value) : Prop := Blk w g T xs ∧ xs.length = n
theorem at_mk {w : World} {g : Nat} {T : TypeId} {n : Nat} {xs : List Value} (h : Blk w g T xs) (hn : xs.length = n) : At w g T n xs := ⟨h, hn⟩
theorem At.blk {w : World} {g : Nat} {T : TypeId} {n : Nat} {xs : List Value} (h : At w g T n xs) : Blk w g T xs := h.1
theorem At.len {w : World} {g : Nat} {T : TypeId} {n : Nat} {xs : List Value} (h : At w g T n xs) : xs.length = n := h.2
theorem At.grow {w w' : World} {g : Nat} {T : TypeId} {n : Nat} {xs : List Value} (h : At w g T n xs) (k : Grow w w') : At w' g T n xs := ⟨h.1.grow k, h.2⟩
theorem At.sl {w : World} {g : Nat} {T : TypeId} {n : Nat} {xs : List Value} (h : At w g T n xs) : Sl w w.heap.size 1 (some ⟨g, 0, none⟩) n xs := h.1.sl (by rw [h.2]; omega)
theorem At.lt {w : World} {g : Nat} {T : TypeId} {n : Nat} {xs : List Value} (h : At w g T n xs) : g < w.heap.size := h.1.lt
theorem var_grow {w w1 w2 : World} (h1 : Below w.heap.size w w1) (hz : w1.heap.size = w.heap.size + 1) (hg : w1.grownBy w2 (some w.heap.size)) : Grow w w2 :=
 h1.grown hg (by omega) (by intro g hg; cases hg; exact Nat.le_refl _)
theorem put_below {w0 w w2 : World} {g : Nat} (h : Below w0.heap.size w0 w) (hg : w0.heap.size ≤ g) (k : w.grownBy w2 (some g)) : Below w0.heap.size w0 w2 :=
 h.grown k h.size (by intro q hq; cases hq; exact hg)
theorem len_id {v : Value} : (List.replicate 32 v).length = 32 := by simp
theorem Dig.bytes {w : World} {A : Option Addr} {n : Nat} {xs : List Value} {d : List UInt8} (h : Dig xs d) (hs : Sl w w.heap.size 1 A n xs) : Sl w w.heap.size 1 A n (d.map B) := by rw [← h.1]; exact hs
theorem app_below {w0 w w2 : World} {A : Option Addr} {e : TypeId} {sz n c : Nat} {xs : List Value} (h : Below w0.heap.size w0 w) (ho : w.ownsRow w0.heap.size e sz (.slice A n c) n xs) (k : w.grownBy w2 (A.map Addr.block)) : Below w0.heap.size w0 w2 :=
 below_grown h k h.size (own_from ho)
theorem own_blk {w : World} {base g n : Nat} {e : TypeId} {cs : List Value} (h : Blk w g e cs) (hn : cs.length = n) (hb : base ≤ g) (hm : n ≤ maxLen) : w.ownsRow base e 1 (.slice (some ⟨g, 0, none⟩) n n) n cs :=
 ⟨by omega, .inr ⟨g, n, cs.toArray, rfl, hb, h, Nat.le_refl _, hm, by simp; omega, List.take_of_length_le (by simp; omega)⟩⟩
def OwnAt (w : World) (base : Nat) (A : Option Addr) (n c : Nat) (xs : List Value) : Prop := w.ownsRow base 5 1 (.slice A n c) n xs
theorem OwnAt.grow {w w' : World} {base n c : Nat} {A : Option Addr} {xs : List Value} (h : OwnAt w base A n c xs) (k : Grow w w') : OwnAt w' base A n c xs := own_below h k
theorem wrap64_in (x : Int) (h : -9223372036854775808 ≤ x ∧ x ≤ 9223372036854775807) : RowKit.wrap64 x = x := by unfold RowKit.wrap64; omega
def leB (n : Nat) : List UInt8 := if h : n = 0 then [] else UInt8.ofNat n :: leB (n / 256)
termination_by n
decreasing_by exact Nat.div_lt_self (Nat.pos_of_ne_zero h) (by omega)
theorem leB_zero : leB 0 = [] := by rw [leB]; rfl
theorem leB_pos {n : Nat} (h : n ≠ 0) : leB n = UInt8.ofNat n :: leB (n / 256) := by rw [leB, dif_neg h]
def lenB (n : Nat) : Nat := (leB n).length
theorem lenB_zero : lenB 0 = 0 := by rw [lenB, leB_zero]; rfl
theorem lenB_pos {n : Nat} (h : n ≠ 0) : lenB n = lenB (n / 256) + 1 := by rw [lenB, leB_pos h]; rfl
theorem lenB_le : ∀ (k n : Nat), n < 256 ^ k → lenB n ≤ k
 | 0, n, h => by obtain rfl : n = 0 := by simpa using h
                 rw [lenB_zero]; omega
 | k + 1, n, h => by
  by_cases hn : n = 0
  ·rw [hn, lenB_zero]; omega
  ·rw [lenB_pos hn]
   have := lenB_le k (n / 256) (by rw [Nat.pow_succ] at h; omega)
   omega
theorem lenB_64 {n : Nat} (h : n ≤ 18446744073709551615) : lenB n ≤ 8 := lenB_le 8 n (by omega)
theorem leB_at : ∀ (i n : Nat), i < lenB n → (leB n)[i]? = some (UInt8.ofNat (n / 256 ^ i))
 | 0, n, h => by
  have hn : n ≠ 0 := by rintro rfl; rw [lenB_zero] at h; omega
  rw [leB_pos hn]; simp
 | i + 1, n, h => by
  have hn : n ≠ 0 := by rintro rfl; rw [lenB_zero] at h; omega
  rw [lenB_pos hn] at h
  rw [leB_pos hn, List.getElem?_cons_succ, leB_at i (n / 256) (by omega), Nat.div_div_eq_div_mul, Nat.pow_succ, Nat.mul_comm 256]
def numB (n : Nat) : List UInt8 := UInt8.ofNat (lenB n) :: (leB n).reverse
theorem numB_len (n : Nat) : (numB n).length = lenB n + 1 := by rw [numB, List.length_cons, List.length_reverse]; rfl
theorem numB_le {n : Nat} (h : n ≤ 18446744073709551615) : (numB n).length ≤ 9 := by rw [numB_len]; have := lenB_64 h; omega
theorem leB_len (n : Nat) : (leB n).length = lenB n := rfl
theorem numB_zero (n : Nat) : (numB n).take 1 = [UInt8.ofNat (lenB n)] := rfl
theorem numB_at {n t : Nat} (h : t < lenB n) : (numB n)[t + 1]? = some (UInt8.ofNat (n / 256 ^ (lenB n - 1 - t))) := by
 unfold numB
 rw [List.getElem?_cons_succ, List.getElem?_reverse (by rw [leB_len]; exact h), leB_len, leB_at _ _ (by omega)]
theorem take_snoc {α : Type} {l : List α} {t : Nat} {x : α} (h : l[t]? = some x) : l.take (t + 1) = l.take t ++ [x] := by
 rw [List.take_add_one, h]; rfl
theorem numB_step {n t : Nat} (h : t < lenB n) : (numB n).take (t + 1 + 1) = (numB n).take (t + 1) ++ [UInt8.ofNat (n / 256 ^ (lenB n - 1 - t))] := take_snoc (numB_at h)
theorem numB_all (n : Nat) : (numB n).take (lenB n + 1) = numB n := List.take_of_length_le (by rw [numB_len]; exact Nat.le_refl _)
theorem b8_ofNat (n : Nat) : b8 (UInt8.ofNat n) = ((n % 256 : Nat) : Int) := by unfold b8; rw [UInt8.toNat_ofNat']
attribute [irreducible] lenB numB
structure Kept (K : Nat → Prop) (w w' : World) : Prop where
 os : w'.os = w.os
 tape : w'.tape = w.tape
 output : w'.output = w.output
 size : w.heap.size ≤ w'.heap.size
 block : ∀ k, K k → w'.heap[k]? = w.heap[k]?
section
variable {K : Nat → Prop} {w w1 w2 : World}
theorem Kept.refl (K : Nat → Prop) (w : World) : Kept K w w := ⟨rfl, rfl, rfl, Nat.le_refl _, fun _ _ => rfl⟩
theorem Kept.trans (h : Kept K w w1) (k : Kept K w1 w2) : Kept K w w2 := ⟨k.os.trans h.os, k.tape.trans h.tape, k.output.trans h.output, Nat.le_trans h.size k.size, fun i hi => (k.block i hi).trans (h.block i hi)⟩
theorem Kept.of_grow (h : Grow w w1) (hK : ∀ k, K k → k < w.heap.size) : Kept K w w1 := ⟨h.os, h.tape, h.output, h.size, fun k hk => h.block k (hK k hk)⟩
theorem Kept.of_grown {row : Option Nat} (h : w.grownBy w1 row) (hK : ∀ k, K k → k < w.heap.size ∧ row ≠ some k) : Kept K w w1 :=
 ⟨h.os, h.tape, h.output, h.size, fun k hk => h.block k (hK k hk).1 (fun e => (hK k hk).2 e.symm)⟩
theorem Kept.mono {K' : Nat → Prop} (h : Kept K w w1) (hK : ∀ k, K' k → K k) : Kept K' w w1 := ⟨h.os, h.tape, h.output, h.size, fun k hk => h.block k (hK k hk)⟩
theorem Kept.below {Bd : Nat} (h : Kept K w w1) (hB : ∀ k, k < Bd → K k) : Below Bd w w1 := ⟨h.os, h.tape, h.output, h.size, fun k hk => h.block k (hB k hk)⟩
theorem Kept.blk {g : Nat} {t : TypeId} {cs : List Value} (h : Kept K w w1) (hb : Blk w g t cs) (hg : K g) : Blk w1 g t cs := (h.block g hg).trans hb
def PenAt (w : World) (K : Nat → Prop) (g : Nat) (xs : List UInt8) : Prop :=
 ∃ A c, Blk w g 62 [.slice A xs.length c] ∧ w.ownsRow 0 5 1 (.slice A xs.length c) xs.length (xs.map B) ∧ (∀ k, K k → k < w.heap.size ∧ k ≠ g ∧ A.map Addr.block ≠ some k) ∧ A.map Addr.block ≠ some g
theorem own_lt {base : Nat} {e : TypeId} {sz n c : Nat} {A : Option Addr} {ys : List Value} (h : w.ownsRow base e sz (.slice A n c) n ys) : ∀ g, A.map Addr.block = some g → g < w.heap.size := by
 rcases h.2 with ⟨hv, _⟩ | ⟨g, cap, cur, hv, _, hh, _⟩
 ·injection hv with hA; subst hA; intro g hg; cases hg
 ·injection hv with hA; subst hA
  intro g' hg'
  obtain rfl : g = g' := by simpa using hg'
  exact (Array.getElem?_eq_some_iff.1 hh).1
theorem PenAt.grow {g : Nat} {xs : List UInt8} (h : PenAt w K g xs) (k : Grow w w1) : PenAt w1 K g xs := by
 obtain ⟨A, c, h1, h2, h3, h4⟩ := h
 exact ⟨A, c, h1.grow k, h2.grow k, fun j hj => ⟨Nat.lt_of_lt_of_le (h3 j hj).1 k.size, (h3 j hj).2⟩, h4⟩
theorem PenAt.lt {g : Nat} {xs : List UInt8} (h : PenAt w K g xs) : g < w.heap.size := by obtain ⟨A, c, h1, _⟩ := h; exact h1.lt
theorem PenAt.less {K' : Nat → Prop} {g : Nat} {xs : List UInt8} (h : PenAt w K g xs) (hK : ∀ k, K' k → K k) : PenAt w K' g xs := by
 obtain ⟨A, c, h1, h2, h3, h4⟩ := h
 exact ⟨A, c, h1, h2, fun j hj => h3 j (hK j hj), h4⟩
theorem PenAt.more {K' : Nat → Prop} {g : Nat} {xs : List UInt8} (h : PenAt w K g xs) (k : Grow w w1) (hK : ∀ j, K' j → K j ∨ (w.heap.size ≤ j ∧ j < w1.heap.size)) : PenAt w1 K' g xs := by
 have hlt := h.lt
 obtain ⟨A, c, h1, h2, h3, h4⟩ := h
 refine ⟨A, c, h1.grow k, h2.grow k, fun j hj => ?_, h4⟩
 rcases hK j hj with hk | ⟨ha, hb⟩
 ·exact ⟨Nat.lt_of_lt_of_le (h3 j hk).1 k.size, (h3 j hk).2⟩
 ·exact ⟨hb, by omega, fun e => by have := own_lt h2 j e; omega⟩
theorem PenAt.new {g : Nat} (h : Blk w g 62 [.slice none 0 0]) (hK : ∀ k, K k → k < w.heap.size ∧ k ≠ g) : PenAt w K g [] :=
 ⟨none, 0, h, World.ownsRow_nil w _ _ _, fun k hk => ⟨(hK k hk).1, (hK k hk).2, by simp⟩, by simp⟩
theorem pen_app {g c c' : Nat} {A A' : Option Addr} {xs ys : List UInt8} (h1 : Blk w g 62 [.slice A xs.length c]) (h2 : w.ownsRow 0 5 1 (.slice A xs.length c) xs.length (xs.map B))
  (h3 : ∀ k, K k → k < w.heap.size ∧ k ≠ g ∧ A.map Addr.block ≠ some k) (h4 : A.map Addr.block ≠ some g)
  (ho : w1.ownsRow 0 5 1 (.slice A' ys.length c') ys.length (ys.map B)) (hg : w.grownBy w1 (A.map Addr.block)) (hA : ∀ b, A'.map Addr.block = some b → A.map Addr.block = some b ∨ w.heap.size ≤ b) :
  PenAt (w1.setCell ⟨g, 0, none⟩ (.slice A' ys.length c')) K g ys ∧ Kept K w (w1.setCell ⟨g, 0, none⟩ (.slice A' ys.length c')) := by
 have hlt := h1.lt
 have hne : A'.map Addr.block ≠ some g := fun e => by rcases hA g e with h | h <;> first | exact h4 h | omega
 have hk : Kept K w w1 := Kept.of_grown hg (fun k hk => ⟨(h3 k hk).1, (h3 k hk).2.2⟩)
 have hs := grown_set w1 g 0 (.slice A' ys.length c')
 refine ⟨⟨A', c', ?_, own_kept ho hs (fun k e => by rw [e] at hne; intro e2; injection e2 with e3; exact hne (by simp [e3])), fun k hkk => ⟨?_, (h3 k hkk).2.1, fun e => ?_⟩, hne⟩, hk.trans (Kept.of_grown hs (fun k hkk => ⟨Nat.lt_of_lt_of_le (h3 k hkk).1 hk.size, fun e => (h3 k hkk).2.1 (by injection e with e; exact e.symm)⟩))⟩
 ·have := (h1.grown hg (fun e => h4 e.symm)).set_ 0 (.slice A' ys.length c')
  simpa using this
 ·exact Nat.lt_of_lt_of_le (Nat.lt_of_lt_of_le (h3 k hkk).1 hk.size) hs.size
 ·rcases hA k e with h | h
  ·exact (h3 k hkk).2.2 h
  ·have := (h3 k hkk).1; omega
end
end Go.Proofs.YtphmefhnffoafaaGreatDoor
namespace Go.Proofs.YtphmefhnffoafaaGreatDoor
open Go.RowKit Go.Shelf
set_option linter.unusedVariables false
theorem back_any (A : Option Addr) (n c : Nat) (w : World) :
  Calls Tryz.prog 61 #[.slice A n c] w fun e w' => e = .returned (.func (.func 87) #[] #[.pointer (some ⟨w.heap.size, 0, none⟩)]) ∧
   w'.cell? ⟨w.heap.size, 0, none⟩ = some (.slice A n c) ∧ w'.heap.size = w.heap.size + 1 ∧ Below w.heap.size w w' := by
 go_enter Tryz.func61, Tryz.ntmps61
 go_wp2_with fail
 go_ret
 exact ⟨rfl, by simp, by simp, (Below.refl _ _).alloc (Nat.le_refl _) _⟩
def nthB (ys : List UInt8) (k : Nat) : UInt8 := ys.getD (ys.length - 1 - k) 0
set_option maxRecDepth 100000 in
set_option maxHeartbeats 1000000 in
theorem back1_any (m : Nat) (hm : 1 ≤ m) (l Bs bl n c : Nat) (A : Option Addr) (ys : List UInt8) (hA : 1 ≤ n → A = some ⟨bl, 0, none⟩) (hn : ys.length = n) (hc : n ≤ c) (hnb : n ≤ 1000000) (Kp : World → World → Prop) (hKd : ∀ W n, Kp W (World.drewN W n)) (hKt : ∀ A B C : World, Kp A B → Kp B C → Kp A C)
  (hKs : ∀ W W', Kp W W' → W'.cell? ⟨Bs, 0, none⟩ = W.cell? ⟨Bs, 0, none⟩) (hKb : ∀ W W', Kp W W' → 1 ≤ n → ∀ j, W'.cell? ⟨bl, j, none⟩ = W.cell? ⟨bl, j, none⟩) (J Jx : List (Fin n) → World → Prop) (hJd : ∀ pre W1 n, J pre W1 → J pre (W1.drewN n))
  (hY : ∀ pre x W, J pre W → pre.length < n → YieldAt Fence.wide (m - 1) Tryz.prog l #[.int .i64 ((n : Int) - 1 - (x.val : Int)), .int .u8 (b8 (nthB ys x.val))] W fun e W' =>
    (e = .returned (.bool true) ∧ J (pre ++ [x]) W' ∧ Kp W W') ∨ (e = .returned (.bool false) ∧ Jx (pre ++ [x]) W'))
  (W : World) (hBs : W.cell? ⟨Bs, 0, none⟩ = some (.slice A n c)) (hRd : ∀ j y, ys[j]? = some y → W.cell? ⟨bl, j, none⟩ = some (B y)) (h0 : J [] W) :
  Calls Tryz.prog 87 #[.func (.yield l) #[] #[], .pointer (some ⟨Bs, 0, none⟩)] W fun e W' => (∃ v, e = .returned v) ∧
   ((∃ zs, zs.map Fin.val = List.range n ∧ J zs W') ∨ (∃ pre, True ∧ Jx pre W')) := by
 have HY := kp hY; clear hY
 have HKD := kp hKd; clear hKd
 have HKT := kp hKt; clear hKt
 have HKS := kp hKs; clear hKs
 have HKB := kp hKb; clear hKb
 have HJD := kp hJd; clear hJd
 have H0 := kp h0; clear h0
 have HBS := kp hBs; clear hBs
 have HRD := kp hRd; clear hRd
 have HA := kp hA; clear hA
 have HN := kp hn; clear hn
 go_enter Tryz.func87, Tryz.ntmps87
 have c0 := HBS.out
 go_wp2_with fail
 clear c0
 go_loopw [3] (fun i wr => ∃ k : Nat, k ≤ n ∧ i = .int .i64 ((n : Int) - 1 - (k : Int)) ∧ Hid (∃ pre, pre.map Fin.val = List.range k ∧ J pre wr) ∧ Hid (Kp W wr)) (fun i _ => (intOf i + 1).toNat)
 case atStart => exact ⟨0, Nat.zero_le _, by simp, ⟨[], rfl, H0.out⟩, HKD.out W 0⟩
 case round =>
  obtain ⟨k, hk, rfl, hJ, hbw⟩ := hrel
  by_cases hlt : k < n
  ·obtain rfl := HA.out (by omega)
   have c0 := (HKS.out _ _ hbw.out).trans HBS.out
   obtain ⟨j, hj1, hj2⟩ : ∃ j : Nat, (n : Int) - 1 - (k : Int) = (j : Int) ∧ j = n - 1 - k := ⟨n - 1 - k, by omega, rfl⟩
   have hjn : j < n := by omega
   have hyj : ys[j]? = some (nthB ys k) := by
    unfold nthB
    rw [HN.out, ← hj2, List.getD_eq_getElem?_getD, List.getElem?_eq_getElem (by rw [HN.out]; exact hjn)]; rfl
   have c1 : wr.cell? ⟨bl, j, none⟩ = some (.int .u8 (b8 (nthB ys k))) := (HKB.out _ _ hbw.out (by omega) j).trans (HRD.out j _ hyj)
   obtain ⟨pre, hpre, hJp⟩ := hJ.out
   have HPRE := kp hpre
   have hlen : pre.length = k := by have := congrArg List.length hpre; simpa using this
   obtain ⟨fn, tmps, assign, body, hy, hR⟩ := HY.out pre ⟨k, hlt⟩ wr hJp (by rw [hlen]; exact hlt)
   have HR := kp hR
   clear hR hJp hpre hlen hJ hyj
   dsimp only at hy
   rw [hj1] at hy ⊢
   have HJ1 := kp hj1
   have HJ2 := kp hj2
   have hg0 : decide (0 ≤ (j : Int)) = true := by simp
   clear hj1 hj2
   repeat' (first | (with_reducible refine (wpIn_wide (n := m) (c := Code.region 3 _ _)).1 ?_) | go_values | go_skip | go_guarded | go_step | go_upon | go_back)
   gi_wp2
   refine HR.out.mono ?_
   rintro e W3 (⟨rfl, hJ3, hk3⟩ | ⟨rfl, hJx3⟩)
   ·have HJ3 := kp hJ3
    have HK3 := kp (HKT.out _ _ _ hbw.out hk3)
    clear hJ3 hk3
    gi_wp2
    repeat' (first | go_values | go_skip | go_guarded | go_step | go_upon | go_back)
    go_roundw
    case rel =>
     have h1 := HJ1.out
     refine ⟨k + 1, by omega, ?_, ⟨pre ++ [⟨k, hlt⟩], by rw [List.map_append, HPRE.out, List.range_succ]; rfl, HJ3.out⟩, HK3⟩
     congr 1; omega
    case measure => simp [intOf]
   ·have HJX := kp hJx3
    clear hJx3
    gi_wp2
    repeat' (first | go_values | go_skip | go_guarded | go_step | go_upon | go_back)
    refine bodyPost_ret (results_none rfl _ _ _) rfl ?_
    exact ⟨⟨_, rfl⟩, .inr ⟨_, trivial, HJX.out⟩⟩
  ·obtain rfl : k = n := by omega
   have hg0 : decide (0 ≤ (k : Int) - 1 - (k : Int)) = false := by simp only [decide_eq_false_iff_not]; omega
   go_wp2_with fail
   go_end0
   exact ⟨⟨_, rfl⟩, .inl hJ.out⟩
def Kp2 (a b : Nat) (W W' : World) : Prop := W'.heap[a]? = W.heap[a]? ∧ W'.heap[b]? = W.heap[b]?
theorem back1_stops (m : Nat) (hm : 1 ≤ m) (Bs bl n c : Nat) (A : Option Addr) (ys : List UInt8) (w : World) (hA : 1 ≤ n → A = some ⟨bl, 0, none⟩) (hn : ys.length = n) (hc : n ≤ c) (hnb : n ≤ 1000000) (hbs : Bs < w.heap.size) (hbl : bl < w.heap.size)
  (hBs : w.cell? ⟨Bs, 0, none⟩ = some (.slice A n c)) (hRd : ∀ j y, ys[j]? = some y → w.cell? ⟨bl, j, none⟩ = some (B y)) :
  SeqStopsK Fence.wide m Tryz.prog 87 #[.pointer (some ⟨Bs, 0, none⟩)] (fun x : Fin n => #[.int .i64 ((n : Int) - 1 - (x.val : Int)), .int .u8 (b8 (nthB ys x.val))]) (Kp2 Bs bl) (fun xs => xs.map Fin.val = List.range n) (fun _ => True) n w := by
 intro l J Jx W hW hJ hJx hY h0
 refine callsIn_wide.2 (back1_any m hm l Bs bl n c A ys hA hn hc hnb (Kp2 Bs bl) (fun W n => ⟨rfl, rfl⟩) (fun A B C h1 h2 => ⟨h2.1.trans h1.1, h2.2.trans h1.2⟩) (fun W W' h => World.cell?_of_block h.1) (fun W W' h _ j => World.cell?_of_block h.2) J Jx ?_ hY W ?_ ?_ h0)
 ·intro pre W1 n h
  exact hJ pre W1 _ none h ⟨rfl, rfl, rfl, Nat.le_refl _, fun _ _ _ => rfl⟩ (fun r e => by cases e)
 ·exact (hW.cell (p := ⟨Bs, 0, none⟩) (by show Bs < _; omega)).trans hBs
 ·intro j y hj
  exact (hW.cell (p := ⟨bl, j, none⟩) (by show bl < _; omega)).trans (hRd j y hj)
open Go.RowKit
section
variable {P : Program} {md : Region.Mode} {ops : Array Oper} {Fut : World → World → Prop} {cl : List Nat} {Q : Exit → Act → World → Prop} {l n : Nat}
theorem oper_wpIn_round {o : Oper} {a : Act} {w : World} {K : Act → World → Prop} (hd : ∀ c, o.op ≠ .defer c) (h : o.wp P a w K Q) : o.wpIn (Fence.wide.inRound l) n P a w K Q := by
 refine ⟨fun _ _ => trivial, ?_⟩
 rw [Oper.semAt_eq _ _ _ hd]
 unfold Oper.wp at h
 generalize (execOp a.eval o).run P w = r at *
 cases r with
 | ok x w' =>
  cases x with
  | enter f args => exact ⟨fun hd => (by cases hd), (callsIn_wide.2 h).inRound l⟩
  | row row args => exact ⟨fun hd => (by cases hd), fun c cs _ => let ⟨v, w', r, s⟩ := h c cs; ⟨v, w', r, stepsIn_wide.2 s⟩⟩
  | round l f tmps assign body => exact (show False from h).elim
  | _ => exact h
 | halt x w' => cases x <;> exact h
def noDefer (o : Oper) : Bool := match o.op with | .defer _ => false | _ => true
theorem noDefer_ne {o : Oper} (h : noDefer o = true) : ∀ c, o.op ≠ .defer c := by
 intro c hc; unfold noDefer at h; rw [hc] at h; cases h
theorem wpOpIn_of_F {i : Nat} {K : Act → World → Prop} {a : Act} {w : World} (hnd : ∀ (i : Nat) (o : Oper), ops[i]? = some o → noDefer o = true) (hh : wpOpF P ops Fut cl i K a w) : wpOpIn (Fence.wide.inRound l) n P ops Q i K a w := by
 unfold wpOpF at hh
 unfold wpOpIn
 cases ho : ops[i]? with
 | none => rw [ho] at hh; exact hh.elim
 | some o =>
  rw [ho] at hh
  simp only at hh ⊢
  split
  ·rename_i hw
   rw [if_pos hw] at hh
   refine oper_wpIn_round (noDefer_ne (hnd i o ho)) ?_
   split at hh
   ·obtain ⟨v, h1, h2⟩ := hh
    unfold Oper.wp; rw [h1]; exact h2
   ·exact oper_wp_no (fun a w h1 => h1.2) hh
  ·rename_i hw; rw [if_neg hw] at hh; exact ⟨fun _ _ => trivial, hh⟩
theorem wpAnyIn_of_F (hnd : ∀ (i : Nat) (o : Oper), ops[i]? = some o → noDefer o = true) : ∀ (f : Nat) (listed : Array Bool) (a : Act) (w : World), wpAnyF P md ops Fut cl Q f listed a w → wpAnyIn (Fence.wide.inRound l) n P md ops Q f listed a w
 | 0, _, _, _, h => h
 | f + 1, _, _, _, h => ⟨h.1, fun i hi => wpOpIn_of_F hnd (wpOpF_mono (fun a w h1 => wpAnyIn_of_F hnd f _ a w h1) (h.2 i hi))⟩
end
theorem wpIn_plan {P : Program} {Q : Exit → Act → World → Prop} {lp n : Nat} {id : Nat} {a : Act} {w : World} {l : List Oper} (Fut : World → World → Prop) (cl : List Nat) (p : Plan) (hm : P.follows .mixedOrders = true) (hB : planOf l cl p = true) (hnd : l.all noDefer = true) (hrefl : ∀ w, Fut w w) (htr : ∀ w1 w2 w3, Fut w1 w2 → Fut w2 w3 → Fut w1 w3)
  (h : ∀ w2, Drawn w w2 → wpS P l.toArray Fut cl Q p a w2) : (Code.region id l.toArray true).wpIn (Fence.wide.inRound lp) n P Q a w := by
 replace h := h w.drew (Drawn.one w)
 simp only [planOf, Bool.and_eq_true] at hB
 refine wpIn_region_any hm (wpAnyIn_of_F (Fut := Fut) (cl := cl) (fun i o ho => by
  rw [List.getElem?_toArray] at ho
  exact List.all_eq_true.1 hnd o (List.mem_of_getElem? ho)) _ _ _ _ ?_)
 have h0 := wpAnyF_of_plan (Q := Q) (md := .any) hB.1 hrefl htr p l.length [] (Array.replicate l.length false) a w.drew (fun j oj _ hj => by
  rw [Array.getD_eq_getD_getElem?, Array.getElem?_replicate] at hj
  split at hj <;> simp at hj) hB.2 (fun j hj => by cases hj) h
 simpa using h0
end Go.Proofs.YtphmefhnffoafaaGreatDoor
namespace Go.Proofs.YtphmefhnffoafaaGreatDoor
open Go.RowKit Go.Shelf
set_option linter.unusedVariables false
attribute [local go_sem] Oper.semAt_some
section
variable {P : Program} {ops : Array Oper} {Fut : World → World → Prop} {cl : List Nat} {Q : Exit → Act → World → Prop} {o : Oper} {i : Nat} {t : Plan} {a : Act} {w : World}
theorem pl_loadF {T : TypeId} {x : Operand} {p : Addr} {v : Value} (hi : ops[i]? = some o) (hc : plCls cl i = 1) (hw : Region.wanted o (yielded ops a.tmps) = true) (ho : o.op = .load T x) (hx : a.eval x = .pointer (some p))
  (hT : (match P.underlying T with | some (.struct _) | some (.array _ _) => false | some _ => true | none => false) = true) (hv : w.cell? p = some v) (hF : ∀ w', Fut w w' → w'.heap[p.block]? = w.heap[p.block]?)
  (hk : ∀ K : Act → World → Prop, (∀ a w, wpS P ops Fut cl Q t a w → K a w) → K (a.put o.dst v) w) : wpS P ops Fut cl Q (.get i t) a w := by
 refine pl_read hi hc hw (fun w' hf => ?_) hk
 have hv' : w'.cell? p = some v := by rw [World.cell?_of_block (hF w' hf)]; exact hv
 unfold execOp
 simp only [ho, hx, Instr.loadAt, Instr.sureAddr, Sem.run_bind, Sem.run_pure, Result.andThen_ok]
 cases hd : P.underlying T with
 | none => rw [hd] at hT; cases hT
 | some d =>
  rw [hd] at hT
  have hagg : (isAgg T).run P w' = .ok false w' := by
   unfold isAgg
   rw [Sem.run_bind, run_underlying hd w']
   cases d <;> simp_all
  simp [loadVar, hagg, load, Sem.run, hv']
end
theorem kp2_refl (a b : Nat) (w : World) : Kp2 a b w w := ⟨rfl, rfl⟩
theorem kp2_trans {a b : Nat} (w1 w2 w3 : World) (h : Kp2 a b w1 w2) (k : Kp2 a b w2 w3) : Kp2 a b w1 w3 := ⟨k.1.trans h.1, k.2.trans h.2⟩
theorem pen_app2 {K : Nat → Prop} {w w1 : World} {g c c' : Nat} {A A' : Option Addr} {xs : List UInt8} {y : UInt8} {v : Value} (h1 : Blk w g 62 [.slice A xs.length c]) (h2 : w.ownsRow 0 5 1 (.slice A xs.length c) xs.length (xs.map B))
  (h3 : ∀ k, K k → k < w.heap.size ∧ k ≠ g ∧ A.map Addr.block ≠ some k) (h4 : A.map Addr.block ≠ some g) (hv : v = B y)
  (ho : w1.ownsRow 0 5 1 (.slice A' (xs.length + 1) c') (xs.length + 1) (xs.map B ++ [v])) (hg : w.grownBy w1 (A.map Addr.block)) (hA : ∀ b, A'.map Addr.block = some b → A.map Addr.block = some b ∨ w.heap.size ≤ b) :
  PenAt (w1.setCell ⟨g, 0, none⟩ (.slice A' (xs.length + 1) c')) K g (xs ++ [y]) ∧ Kept K w (w1.setCell ⟨g, 0, none⟩ (.slice A' (xs.length + 1) c')) := by
 have hl : (xs ++ [y]).length = xs.length + 1 := by simp
 have := pen_app (ys := xs ++ [y]) (A' := A') (c' := c') h1 h2 h3 h4 (by rw [hl, List.map_append]; rw [hv] at ho; exact ho) hg hA
 rw [hl] at this
 exact this
theorem num_rev (ys : List UInt8) : (List.range ys.length).map (nthB ys) = ys.reverse := by
 apply List.ext_getElem?
 intro i
 rw [List.getElem?_map]
 by_cases h : i < ys.length
 ·rw [List.getElem?_range h, List.getElem?_reverse h, Option.map_some]
  unfold nthB
  rw [List.getD_eq_getElem?_getD, List.getElem?_eq_getElem (show ys.length - 1 - i < ys.length by omega)]; rfl
 ·rw [List.getElem?_eq_none (by simp; omega), List.getElem?_eq_none (by simp; omega)]; rfl
theorem numB_eq (n : Nat) : numB n = [UInt8.ofNat (lenB n)] ++ (leB n).reverse := by unfold numB; rfl
theorem bnat (n : Nat) : Value.int .u8 ((n : Int) % 256) = B (UInt8.ofNat n) := by unfold B; rw [b8_ofNat]; congr 1
theorem PenAt.kept {K : Nat → Prop} {w w1 : World} {g Bd : Nat} {xs : List UInt8} {row : Option Nat} (h : PenAt w K g xs) (hg : w.grownBy w1 row) (hr : ∀ r, row = some r → Bd ≤ r ∧ ∃ o : Obj, w.heap[r]? = some o ∧ o.isCells = false) : PenAt w1 K g xs := by
 obtain ⟨A, c, h1, h2, h3, h4⟩ := h
 exact ⟨A, c, h1.grown hg (row_ne_blk h1 hr), own_kept h2 hg (fun k hk => by subst hk; exact row_ne_own h2 hr), fun j hj => ⟨Nat.lt_of_lt_of_le (h3 j hj).1 hg.size, (h3 j hj).2⟩, h4⟩
theorem keeps_own {w w1 : World} {base n c sz : Nat} {e : TypeId} {A : Option Addr} {xs : List Value} (h : w.ownsRow base e sz (.slice A n c) n xs) (hg : w.grownBy w1 (A.map Addr.block)) : KeepsOthers w w1 := by
 refine ⟨hg.size, fun k o hk hc => ?_⟩
 refine (hg.block k (Array.getElem?_eq_some_iff.1 hk).1 (fun e => ?_)).trans hk
 rcases h.2 with ⟨hv, _⟩ | ⟨g, cap, cur, hv, _, hh, _⟩
 ·injection hv with hA; subst hA; cases e
 ·injection hv with hA; subst hA
  obtain rfl : k = g := by simpa using e
  rw [hh] at hk; cases hk; cases hc
theorem bnat_s (n : Nat) (h : n ≤ 255) : Value.int .u8 (n : Int) = B (UInt8.ofNat n) := by rw [← bnat]; congr 1; omega
set_option maxRecDepth 100000 in
set_option maxHeartbeats 4000000 in
theorem num_any (g N : Nat) (K : Nat → Prop) (xs : List UInt8) (w : World) (h : PenAt w K g xs) (hl : xs.length ≤ 1000000) (hN : N ≤ 18446744073709551615) :
  Calls Tryz.prog 25 #[.pointer (some ⟨g, 0, none⟩), .int .u64 N] w fun e w' => e = .returned (.tuple #[]) ∧ PenAt w' K g (xs ++ numB N) ∧ Kept K w w' := by
 have HP := kp h; clear h
 have HK0 := kp (show ∀ k, K k → k < w.heap.size from fun k hk => by obtain ⟨A, c, _, _, h3, _⟩ := HP.out; exact (h3 k hk).1)
 refine callsIn_wide.1 (callsIn_of_wp_marks (n := 10) Tryz.func25 rfl trivial ?_ rfl)
 simp only [Tryz.ntmps25, List.size_toArray, List.length_cons, List.length_nil, Nat.reduceAdd, Nat.reduceSub, Array.replicate_succ, Array.replicate_zero, List.push_toArray, List.append_toArray, List.nil_append, List.cons_append]
 refine wpIn_wide.2 ?_
 go_wp2_with fail
 generalize hw1 : World.alloc w _ = w1
 obtain ⟨hX, hb, hs⟩ := alloc_eq hw1
 obtain ⟨gp, hgp⟩ : ∃ gp, gp = w.heap.size := ⟨_, rfl⟩
 rw [← hgp] at hX hs ⊢
 have HG := kp hgp
 have HX := kp hX
 have HP1 := kp (HP.out.more (K' := fun k => K k ∨ k = gp) hb (fun j hj => hj.imp_right (fun e => by omega)))
 have HKP1 := kp (Kept.of_grow hb HK0.out)
 have HS1 := kp hs
 have HGL := kp (show g < gp by rw [hgp]; exact HP.out.lt)
 clear hX hb hs hw1 hgp HP
 have HL8 := kp (lenB_64 hN)
 go_loopw [1, 4] (fun nv lv wr => ∃ M : Nat, ∃ ys A c, nv = .int .u64 M ∧ lv = .slice A ys.length c ∧ Hid (leB N = ys ++ leB M) ∧ M ≤ N ∧ Hid (wr.ownsRow w1.heap.size 5 1 (.slice A ys.length c) ys.length (ys.map B)) ∧ Hid (ys.length ≤ c) ∧ Hid (Grow w1 wr)) (fun nv _ _ => (intOf nv).toNat)
 case atStart => exact ⟨N, [], none, 0, rfl, rfl, rfl, Nat.le_refl _, World.ownsRow_nil _ _ _ _, Nat.zero_le _, Grow.refl _⟩
 case round =>
  obtain ⟨M, ys, A, c, rfl, rfl, hsp, hMN, hown, hyc, hgr⟩ := hrel
  have hyl : ys.length + lenB M = lenB N := by have := congrArg List.length hsp.out; rw [List.length_append, leB_len, leB_len] at this; omega
  have h8 := HL8.out
  by_cases hM : 0 < M
  ·have d1 : decide ((0 : Int) < (M : Int)) = true := by simpa using hM
   go_wp2_with (at_builtin; refine wpl_app1 rfl rfl el_u8 hown.out rfl (m := 1) rfl rfl ?_ ?_ ?_ ?_ ?_)
   ·simp [Value.oneCell']
   ·omega
   ·omega
   ·exact hgr.out.size
   intro A5 c5 w5 ho hg hA
   have HB5 := kp (show Grow w1 w5 from below_grown hgr.out hg hgr.out.size (fun j hj => own_from hown.out j hj))
   have hll : (ys ++ [UInt8.ofNat M]).length = ys.length + 1 := by simp
   have HO5 := kp (show w5.ownsRow w1.heap.size 5 1 (.slice A5 (ys ++ [UInt8.ofNat M]).length c5) (ys ++ [UInt8.ofNat M]).length ((ys ++ [UInt8.ofNat M]).map B) by
    rw [hll, List.map_append]; simp only [List.map_cons, List.map_nil]; rw [← bnat]; exact ho)
   have HC5 := kp (show (ys ++ [UInt8.ofNat M]).length ≤ c5 by obtain ⟨_, _, _, _, hcc⟩ := own_form HO5.out (by rw [hll]; omega); exact hcc)
   have HSP5 := kp (show leB N = (ys ++ [UInt8.ofNat M]) ++ leB (M / 256) by rw [hsp.out, leB_pos (by omega), List.append_assoc]; rfl)
   clear ho hg hA
   rw [← hll]
   go_wp2_with fail
   go_roundw
   case rel => exact ⟨M / 256, ys ++ [UInt8.ofNat M], A5, c5, by first | rfl | (congr 1; omega), rfl, HSP5, by omega, HO5, HC5, HB5⟩
   case measure => simp [intOf]; omega
  ·obtain rfl : M = 0 := by omega
   have HYS := kp (show leB N = ys by have := hsp.out; rw [leB_zero, List.append_nil] at this; exact this)
   have hyl2 : ys.length = lenB N := by rw [← leB_len, HYS.out]
   obtain ⟨n, hn⟩ : ∃ n, n = ys.length := ⟨_, rfl⟩
   have HNL := kp (show n = lenB N by rw [hn, hyl2])
   have HYL := kp (show ys.length = n from hn.symm)
   rw [← hn] at hown hyc ⊢
   have HPR := kp (HP1.out.more (K' := fun k => (K k ∨ k = gp) ∨ (w1.heap.size ≤ k ∧ k < wr.heap.size)) hgr.out (fun j hj => hj))
   have HXR := kp (HX.out.grow hgr.out)
   have HKR := kp (HKP1.out.trans (Kept.of_grow hgr.out (fun k hk => Nat.lt_of_lt_of_le (HK0.out k hk) HKP1.out.size)))
   have HOR := hown
   have HSR := kp (show w1.heap.size ≤ wr.heap.size from hgr.out.size)
   have hn8 : n ≤ 8 := by have := HNL.out; omega
   clear hyl2 hn hown hgr hsp hyl hMN HX HP1 HKP1
   go_wp2_with fail
   repeat' (first | (with_reducible refine wp_plan (id := 5) (Kp2 gp g) [1, 1, 0, 0, 1, 0, 0, 0, 4, 4, 0, 0, 3] (.get 0 (.get 1 (.get 2 (.get 3 (.get 4 (.get 5 (.get 6 (.get 7 (.act 8 (.act 9 (.get 10 (.get 11 (.act 12 .done))))))))))))) (by kernel_rfl) (by kernel_rfl) (kp2_refl gp g) kp2_trans ?_) | go_values | go_skip | go_guarded | go_step | go_upon | go_back)
   intro w_ hd_
   have hdg := hd_.grow
   obtain ⟨Ap, cp, hq1, hq2, hq3, hq4⟩ := HPR.out.grow hdg
   have HPB := kp hq1
   have HPO := kp hq2
   have HGP := kp (show w_.cell? ⟨gp, 0, none⟩ = some (.pointer (some ⟨g, 0, none⟩)) from (HXR.out.grow hdg).at_ rfl)
   have HPC := kp (show w_.cell? ⟨g, 0, none⟩ = some (.slice Ap xs.length cp) from hq1.at_ rfl)
   have HLT := kp (show gp < w_.heap.size ∧ g < w_.heap.size from ⟨(HXR.out.grow hdg).lt, hq1.lt⟩)
   have HNE := kp (show Ap.map Addr.block ≠ some gp ∧ Ap.map Addr.block ≠ some g from ⟨(hq3 gp (.inl (.inr rfl))).2.2, hq4⟩)
   have HKK := kp (show ∀ w2, Grow w_ w2 → ∀ k, ((K k ∨ k = gp) ∨ (w1.heap.size ≤ k ∧ k < wr.heap.size)) → k < w2.heap.size ∧ k ≠ g ∧ Ap.map Addr.block ≠ some k from fun w2 hg k hk => ⟨Nat.lt_of_lt_of_le (hq3 k hk).1 hg.size, (hq3 k hk).2⟩)
   have HKR_ := kp (HKR.out.trans (Kept.of_grow hdg (fun k hk => Nat.lt_of_lt_of_le (HK0.out k hk) HKR.out.size)))
   have HOR_ := kp (HOR.out.grow hdg)
   have HZ_ := kp hdg
   clear hq1 hq2 hq3 hq4 hd_ hdg HPR HKR
   repeat (first | (refine pl_calm rfl rfl (by first | exact wanted_none rfl | (go_simp; done) | rfl) (fun w_ => by first | (go_simp; rfl) | (go_simp; done) | rfl) (fun K hK => ?_); go_simp; refine hK _ _ ?_; clear hK K) | (refine pl_loadF rfl rfl (by first | exact wanted_none rfl | (go_simp; done) | rfl) rfl (by first | rfl | (go_simp; rfl)) (by kernel_rfl) HGP.out (fun w2_ h => h.1) (fun K hK => ?_); go_simp; refine hK _ _ ?_; clear hK K) | (refine pl_loadF rfl rfl (by first | exact wanted_none rfl | (go_simp; done) | rfl) rfl (by first | rfl | (go_simp; rfl)) (by kernel_rfl) HPC.out (fun w2_ h => h.2) (fun K hK => ?_); go_simp; refine hK _ _ ?_; clear hK K))
   refine pl_act rfl (by exact wanted_none rfl) (fun K hK => ?_)
   go_wp2_with fail
   generalize hw_ : World.alloc w_ _ = w2_
   obtain ⟨hX_, hb_, hs_⟩ := alloc_eq hw_
   refine hK _ _ (fun _ => ⟨hb_.block gp HLT.out.1, hb_.block g HLT.out.2⟩) ?_
   clear hK K
   have HPB2 := kp (HPB.out.grow hb_)
   have HPO2 := kp (HPO.out.grow hb_)
   have HSL := kp (Blk.sl (sz := 1) (n := 1) hX_ rfl)
   have HSZ2 := kp hs_
   have HGR2 := kp hb_
   clear hX_ hb_ hs_ hw_
   refine pl_act rfl (by exact wanted_none rfl) (fun K hK => ?_)
   refine wpl_apps rfl rfl el_u8 HPO2.out rfl HSL.out rfl (fun u hu => by simp only [List.mem_cons, List.not_mem_nil, or_false] at hu; rw [hu]; rfl) (by omega) (by omega) (Nat.zero_le _) ?_
   intro A3 c3 w3_ ho_ hg_ hA_
   go_wp2_with fail
   have HGK := kp (show Kp2 gp g w_ w3_ from ⟨(hg_.block gp (Nat.lt_of_lt_of_le HLT.out.1 HGR2.out.size) (fun e => (HNE.out.1 e.symm).elim)).trans (HGR2.out.block gp HLT.out.1), (hg_.block g (Nat.lt_of_lt_of_le HLT.out.2 HGR2.out.size) (fun e => (HNE.out.2 e.symm).elim)).trans (HGR2.out.block g HLT.out.2)⟩)
   refine hK _ _ (fun _ => ⟨hg_.block gp (Nat.lt_of_lt_of_le HLT.out.1 HGR2.out.size) (fun e => (HNE.out.1 e.symm).elim), hg_.block g (Nat.lt_of_lt_of_le HLT.out.2 HGR2.out.size) (fun e => (HNE.out.2 e.symm).elim)⟩) ?_
   clear hK K
   have HPB3 := kp (HPB2.out.grown hg_ (fun e => (HNE.out.2 e.symm).elim))
   have HAP := kp (pen_app2 (A' := A3) (c' := c3) HPB2.out HPO2.out (fun k hk => HKK.out w2_ HGR2.out k hk) HNE.out.2 (bnat_s n (by omega)) ho_ hg_ (fun b hb => hA_.elim (fun h => .inl (h.symm.trans hb)) (fun h => .inr (Nat.le_of_eq (Option.some.inj (h.symm.trans hb))))))
   have HKO := kp (keeps_own HPO2.out hg_)
   clear ho_ hg_ hA_
   repeat (first | (refine pl_calm rfl rfl (by first | exact wanted_none rfl | (go_simp; done) | rfl) (fun w_ => by first | (go_simp; rfl) | (go_simp; done) | rfl) (fun K hK => ?_); go_simp; refine hK _ _ ?_; clear hK K) )
   refine pl_act rfl (by exact wanted_none rfl) (fun K hK => ?_)
   have hcl := HPB3.out.at_ (i := 0) rfl
   have hfz := HPB3.out.frozen 0
   go_wp2_with fail
   refine hK _ _ (fun h => by cases h) ?_
   clear hK K hcl hfz
   refine pl_done ?_
   have HK5 := kp (HKR_.out.trans ((Kept.of_grow HGR2.out (fun k hk => (HKK.out w_ (Grow.refl _) k hk).1)).trans HAP.out.2 |>.mono (fun k hk => .inl (.inl hk))))
   have HP5 := kp HAP.out.1
   have HE5 := kp (show ∀ k, ((K k ∨ k = gp) ∨ (w1.heap.size ≤ k ∧ k < wr.heap.size)) → (w3_.setCell ⟨g, 0, none⟩ (.slice A3 (xs.length + 1) c3)).heap[k]? = w_.heap[k]? from fun k hk => (HAP.out.2.block k hk).trans (HGR2.out.block k (HKK.out w_ (Grow.refl _) k hk).1))
   clear HPB HPO HGP HPC HPB2 HPO2 HSL HSZ2 HPB3 HAP HGK HKR_
   generalize w3_.setCell ⟨g, 0, none⟩ (.slice A3 (xs.length + 1) c3) = w5 at *
   obtain ⟨bl, hbl1, hbl2, hbl3⟩ : ∃ bl, (1 ≤ n → A = some ⟨bl, 0, none⟩) ∧ ((K bl ∨ bl = gp) ∨ (w1.heap.size ≤ bl ∧ bl < wr.heap.size)) ∧ ∀ j y, ys[j]? = some y → w_.cell? ⟨bl, j, none⟩ = some (B y) := by
    by_cases h1 : 1 ≤ n
    ·obtain ⟨b, rfl, hb1, _, _⟩ := own_form HOR.out (by omega)
     obtain ⟨_, hbe, _, hb2, _⟩ := own_form HOR.out (by omega)
     cases hbe
     refine ⟨b, fun _ => rfl, .inr ⟨hb1, hb2⟩, fun j y hj => ?_⟩
     have h := World.ownsRow.cellAt HOR_.out j (by have := (List.getElem?_eq_some_iff.1 hj).1; have := HYL.out; omega)
     rw [h, List.getElem?_map, hj]; rfl
    ·refine ⟨gp, fun h => absurd h h1, .inl (.inr rfl), fun j y hj => ?_⟩
     have := (List.getElem?_eq_some_iff.1 hj).1; have := HYL.out; omega
   have HBL1 := kp hbl1; have HBL2 := kp hbl2
   have HRD := kp (show ∀ j y, ys[j]? = some y → w5.cell? ⟨bl, j, none⟩ = some (B y) from fun j y hj => (World.cell?_of_block (HE5.out bl hbl2)).trans (hbl3 j y hj))
   have HX5 := kp (show Blk w5 gp 110 [.pointer (some ⟨g, 0, none⟩)] from (HE5.out gp (.inl (.inr rfl))).trans (HXR.out.grow HZ_.out))
   clear hbl1 hbl2 hbl3 HE5 HOR HOR_ HXR HZ_ HGR2 HNE HLT
   go_wp2_with fail
   refine (back_any _ _ _ _).mono ?_
   rintro e w6 ⟨rfl, hc1, hs6, hb6⟩
   obtain ⟨Bs, hBs⟩ : ∃ Bs, Bs = w5.heap.size := ⟨_, rfl⟩
   rw [← hBs] at hc1 hs6 ⊢
   have HC1 := kp hc1
   have HP6 := kp (HP5.out.more (K' := fun k => ((K k ∨ k = gp) ∨ (w1.heap.size ≤ k ∧ k < wr.heap.size)) ∨ k = Bs) hb6 (fun j hj => hj.imp_right (fun e => by omega)))
   have HX6 := kp (HX5.out.grow hb6)
   have HK6 := kp (HK5.out.trans (Kept.of_grow hb6 (fun k hk => Nat.lt_of_lt_of_le (HK0.out k hk) HK5.out.size)))
   have hblt : bl < w5.heap.size := by obtain ⟨_, _, _, _, h3, _⟩ := HP5.out; exact (h3 bl HBL2.out).1
   have HRD6 := kp (show ∀ j y, ys[j]? = some y → w6.cell? ⟨bl, j, none⟩ = some (B y) from fun j y hj => (hb6.cell (p := ⟨bl, j, none⟩) (by show bl < _; exact hblt)).trans (HRD.out j y hj))
   have HS6 := kp (show Bs < w6.heap.size ∧ bl < w6.heap.size by omega)
   have HKL6 := kp (show ∀ k, (((K k ∨ k = gp) ∨ (w1.heap.size ≤ k ∧ k < wr.heap.size)) ∨ k = Bs) → k < w6.heap.size from fun k hk => by obtain ⟨_, _, _, _, h3, _⟩ := HP6.out; exact (h3 k hk).1)
   clear hc1 hs6 hb6 hBs hblt HP5 HX5 HK5 HRD
   dsimp only
   repeat' (first | go_values | go_skip | go_guarded | go_step | go_upon | go_back)
   obtain ⟨w0, rfl⟩ : ∃ w0 : World, w0 = w6 := ⟨_, rfl⟩
   refine wpIn_wide.1 (wpIn_rangeFunc_ownF (F := Fence.wide) (n := 10) rfl (by omega) (gf := 87) (lb := #[.pointer (some ⟨Bs, 0, none⟩)]) rfl trivial (enters_of Tryz.func87 (by kernel_rfl) rfl)
    (back1_stops 9 (by omega) Bs bl n c A ys w0 HBL1.out HYL.out hyc.out (by omega) HS6.out.1 HS6.out.2 HC1.out HRD6.out)
    (fun h1 h2 => ⟨h2.1.trans h1.1, h2.2.trans h1.2⟩) (fun V l o o' hl _ _ _ => ⟨World.putObj_heap_other (by have := HS6.out; omega), World.putObj_heap_other (by have := HS6.out; omega)⟩) (Below.refl _ _) (fun _ => rfl)
    (fun pre V => Hid (PenAt V (fun k => ((K k ∨ k = gp) ∨ (w1.heap.size ≤ k ∧ k < wr.heap.size)) ∨ k = Bs) g (xs ++ [UInt8.ofNat n] ++ pre.map (fun x => nthB ys x.val))) ∧ Hid (Kept (fun k => ((K k ∨ k = gp) ∨ (w1.heap.size ≤ k ∧ k < wr.heap.size)) ∨ k = Bs) w0 V))
    (fun _ _ _ => False)
    (fun s V V' row hs hg hr => ⟨hs.1.out.kept hg hr, hs.2.out.trans (Kept.of_grown hg (fun k hk => ⟨Nat.lt_of_lt_of_le (HKL6.out k hk) hs.2.out.size, fun e => by have := (hr k e).1; have := HKL6.out k hk; omega⟩))⟩)
    (fun _ _ _ _ _ hs _ _ => hs)
    ⟨(show PenAt w0 _ g (xs ++ [UInt8.ofNat n] ++ []) by rw [List.append_nil]; exact HP6.out), Kept.refl _ _⟩
    ?A ?assign ?body ?done ?stop)
   case assign =>
    intro l x V K hK
    gi_wp2
    exact hK
   case stop =>
    rintro D c pre V _ _ h _
    exact h.elim
   case body =>
    rintro l pre x V ⟨hp, hk⟩ hlen
    have HQ := kp (show (xs ++ [UInt8.ofNat n] ++ pre.map (fun x => nthB ys x.val)).length ≤ 1000020 by rw [List.length_append, List.length_append, List.length_map]; simp only [List.length_cons, List.length_nil]; omega)
    obtain ⟨xs2, hxs2⟩ : ∃ xs2, xs2 = xs ++ [UInt8.ofNat n] ++ pre.map (fun x => nthB ys x.val) := ⟨_, rfl⟩
    rw [← hxs2] at hp HQ
    have hp0 := hp
    have HX2 := kp hxs2
    have HQ2 := HQ.out
    have HX0 := kp (show Blk V gp 110 [.pointer (some ⟨g, 0, none⟩)] from (hk.out.block gp (.inl (.inl (.inr rfl)))).trans HX6.out)
    clear hxs2
    repeat' (first | (with_reducible refine wpIn_plan (id := 8) (Kp2 gp g) [1, 1, 0, 0, 1, 0, 4, 4, 0, 0, 3] (.get 0 (.get 1 (.get 2 (.get 3 (.get 4 (.get 5 (.act 6 (.act 7 (.get 8 (.get 9 (.act 10 .done))))))))))) (by kernel_rfl) (by kernel_rfl) (by kernel_rfl) (kp2_refl gp g) kp2_trans ?_) | go_values | gi_guarded | gi_step | gi_upon)
    intro w_ hd_
    have hdg := hd_.grow
    obtain ⟨Ap2, cp2, hq1, hq2, hq3, hq4⟩ := hp.out.grow hdg
    have HPB := kp hq1
    have HPO := kp hq2
    have HGP := kp (show w_.cell? ⟨gp, 0, none⟩ = some (.pointer (some ⟨g, 0, none⟩)) from (HX0.out.grow hdg).at_ rfl)
    have HPC := kp (show w_.cell? ⟨g, 0, none⟩ = some (.slice Ap2 xs2.length cp2) from hq1.at_ rfl)
    have HLT := kp (show gp < w_.heap.size ∧ g < w_.heap.size from ⟨(HX0.out.grow hdg).lt, hq1.lt⟩)
    have HNE := kp (show Ap2.map Addr.block ≠ some gp ∧ Ap2.map Addr.block ≠ some g from ⟨(hq3 gp (.inl (.inl (.inr rfl)))).2.2, hq4⟩)
    have HKK := kp (show ∀ w2, Grow w_ w2 → ∀ k, (((K k ∨ k = gp) ∨ (w1.heap.size ≤ k ∧ k < wr.heap.size)) ∨ k = Bs) → k < w2.heap.size ∧ k ≠ g ∧ Ap2.map Addr.block ≠ some k from fun w2 hg k hk => ⟨Nat.lt_of_lt_of_le (hq3 k hk).1 hg.size, (hq3 k hk).2⟩)
    have HZV := kp hdg
    clear hq1 hq2 hq3 hq4 hd_ hdg hp
    repeat (first | (refine pl_calm rfl rfl (by first | exact wanted_none rfl | (go_simp; done) | rfl) (fun w_ => by first | (go_simp; rfl) | (go_simp; done) | rfl) (fun K hK => ?_); go_simp; refine hK _ _ ?_; clear hK K) | (refine pl_loadF rfl rfl (by first | exact wanted_none rfl | (go_simp; done) | rfl) rfl (by first | rfl | (go_simp; rfl)) (by kernel_rfl) HGP.out (fun w2_ h => h.1) (fun K hK => ?_); go_simp; refine hK _ _ ?_; clear hK K) | (refine pl_loadF rfl rfl (by first | exact wanted_none rfl | (go_simp; done) | rfl) rfl (by first | rfl | (go_simp; rfl)) (by kernel_rfl) HPC.out (fun w2_ h => h.2) (fun K hK => ?_); go_simp; refine hK _ _ ?_; clear hK K))
    refine pl_act rfl (by exact wanted_none rfl) (fun K hK => ?_)
    go_wp2_with fail
    generalize hw_ : World.alloc w_ _ = w2_
    obtain ⟨hX_, hb_, hs_⟩ := alloc_eq hw_
    refine hK _ _ (fun _ => ⟨hb_.block gp HLT.out.1, hb_.block g HLT.out.2⟩) ?_
    clear hK K
    have HPB2 := kp (HPB.out.grow hb_)
    have HPO2 := kp (HPO.out.grow hb_)
    have HSL := kp (Blk.sl (sz := 1) (n := 1) hX_ rfl)
    have HSZ2 := kp hs_
    have HGR2 := kp hb_
    clear hX_ hb_ hs_ hw_
    refine pl_act rfl (by exact wanted_none rfl) (fun K hK => ?_)
    refine wpl_apps rfl rfl el_u8 HPO2.out rfl HSL.out rfl (fun u hu => by simp only [List.mem_cons, List.not_mem_nil, or_false] at hu; rw [hu]; rfl) (by omega) (by omega) (Nat.zero_le _) ?_
    intro A3 c3 w3_ ho_ hg_ hA_
    go_wp2_with fail
    have HGK := kp (show Kp2 gp g w_ w3_ from ⟨(hg_.block gp (Nat.lt_of_lt_of_le HLT.out.1 HGR2.out.size) (fun e => (HNE.out.1 e.symm).elim)).trans (HGR2.out.block gp HLT.out.1), (hg_.block g (Nat.lt_of_lt_of_le HLT.out.2 HGR2.out.size) (fun e => (HNE.out.2 e.symm).elim)).trans (HGR2.out.block g HLT.out.2)⟩)
    refine hK _ _ (fun _ => ⟨hg_.block gp (Nat.lt_of_lt_of_le HLT.out.1 HGR2.out.size) (fun e => (HNE.out.1 e.symm).elim), hg_.block g (Nat.lt_of_lt_of_le HLT.out.2 HGR2.out.size) (fun e => (HNE.out.2 e.symm).elim)⟩) ?_
    clear hK K
    have HPB3 := kp (HPB2.out.grown hg_ (fun e => (HNE.out.2 e.symm).elim))
    have HAP := kp (pen_app2 (A' := A3) (c' := c3) HPB2.out HPO2.out (fun k hk => HKK.out w2_ HGR2.out k hk) HNE.out.2 (rfl) ho_ hg_ (fun b hb => hA_.elim (fun h => .inl (h.symm.trans hb)) (fun h => .inr (Nat.le_of_eq (Option.some.inj (h.symm.trans hb))))))
    have HKO := kp (keeps_own HPO2.out hg_)
    clear ho_ hg_ hA_
    repeat (first | (refine pl_calm rfl rfl (by first | exact wanted_none rfl | (go_simp; done) | rfl) (fun w_ => by first | (go_simp; rfl) | (go_simp; done) | rfl) (fun K hK => ?_); go_simp; refine hK _ _ ?_; clear hK K) )
    refine pl_act rfl (by exact wanted_none rfl) (fun K hK => ?_)
    have hcl := HPB3.out.at_ (i := 0) rfl
    have hfz := HPB3.out.frozen 0
    go_wp2_with fail
    refine hK _ _ (fun h => by cases h) ?_
    clear hK K hcl hfz
    refine pl_done ?_
    show KeepsOthers V _ ∧ Kp2 Bs bl V _ ∧ Hid _ ∧ Hid _
    have hk2 := (Kept.of_grow HZV.out (fun k hk => by obtain ⟨_, _, _, _, h3, _⟩ := hp0.out; exact (h3 k hk).1)).trans ((Kept.of_grow HGR2.out (fun k hk => (HKK.out w_ (Grow.refl _) k hk).1)).trans HAP.out.2)
    refine ⟨((keeps_of_below HZV.out).trans (keeps_of_below HGR2.out)).trans (HKO.out.trans (KeepsOthers.setCell _ _ _)), ⟨hk2.block Bs (.inr rfl), hk2.block bl (.inl HBL2.out)⟩, ?_, hk.out.trans hk2⟩
    show PenAt _ _ g (xs ++ [UInt8.ofNat n] ++ (pre ++ [x]).map (fun x => nthB ys x.val))
    rw [List.map_append, ← List.append_assoc, ← HX2.out]; exact HAP.out.1
   case done =>
    rintro D zs V hD hS ⟨hp, hk⟩ hK
    go_wp2_with fail
    refine ⟨by simp, .inl ⟨_, _, rfl, run_takeDeferred hK, ?_⟩⟩
    have hgo := grownBy_putObj' V D (.deferred none)
    have hnc : ∀ r, some D = some r → w0.heap.size ≤ r ∧ ∃ o : Obj, V.heap[r]? = some o ∧ o.isCells = false := fun r e => by cases e; exact ⟨hD, _, hK, rfl⟩
    have hpen := (hp.out.kept hgo hnc).less (K' := K) (fun k hk => .inl (.inl (.inl hk)))
    have hbytes : xs ++ [UInt8.ofNat n] ++ zs.map (fun x => nthB ys x.val) = xs ++ numB N := by
     rw [List.append_assoc]; congr 1
     rw [numB_eq, HYS.out, ← HNL.out, ← num_rev ys, HYL.out, ← hS, List.map_map]; rfl
    rw [hbytes] at hpen
    have hkk := (HK6.out.trans (hk.out.mono (fun k hk => .inl (.inl (.inl hk))))).trans (Kept.of_grown hgo (fun k hkk => by
     have h1 := HKL6.out k (.inl (.inl (.inl hkk)))
     exact ⟨Nat.lt_of_lt_of_le h1 hk.out.size, fun e => by cases e; omega⟩))
    exact ⟨_, results_none rfl _ _ _, rfl, hpen, hkk⟩
end Go.Proofs.YtphmefhnffoafaaGreatDoor

/- What an eye reads of bytes (plain). No program in sight. -/
import Derived.Laws.Cover3
import Derived.Test.YtobmldegjajocaaRe10
set_option linter.unusedSimpArgs false
set_option linter.unusedVariables false
set_option maxRecDepth 100000
set_option maxHeartbeats 16000000
namespace Go.Proofs.Ytobmldegjajocaa
def valB (l : List UInt8) : Nat := l.foldl (fun v c => v * 256 + c.toNat) 0
theorem valB_nil : valB [] = 0 := rfl
theorem valB_snoc (l : List UInt8) (c : UInt8) : valB (l ++ [c]) = valB l * 256 + c.toNat := by unfold valB; rw [List.foldl_append]; rfl
theorem valB_lt : ∀ (n : Nat) (l : List UInt8), l.length ≤ n → valB l < 256 ^ n
 | 0, l, h => by obtain rfl : l = [] := List.eq_nil_of_length_eq_zero (by omega); simp [valB]
 | n + 1, l, h => by
  rcases List.eq_nil_or_concat l with rfl | ⟨t, c, rfl⟩
  ·exact Nat.pow_pos (by omega)
  ·rw [List.concat_eq_append, valB_snoc];have h1 := valB_lt n t (by rw [List.concat_eq_append, List.length_append] at h; simp at h; omega);have h2 := c.toNat_lt;rw [Nat.pow_succ]; omega
theorem valB_64 {l : List UInt8} (h : l.length ≤ 8) : valB l ≤ 18446744073709551615 := by have := valB_lt 8 l h; omega
theorem valB_leB : ∀ (n : Nat), valB (leB n).reverse = n := by
 intro n
 induction n using Nat.strongRecOn with
 | _ n ih =>
  by_cases h : n = 0
  ·rw [h, leB_zero]; rfl
  ·rw [leB_pos h, List.reverse_cons, valB_snoc, ih (n / 256) (by omega), UInt8.toNat_ofNat'];omega
theorem leB_last : ∀ (n : Nat), n ≠ 0 → ∃ c t, (leB n).reverse = c :: t ∧ c ≠ 0 := by
 intro n
 induction n using Nat.strongRecOn with
 | _ n ih =>
  intro h;rw [leB_pos h, List.reverse_cons];by_cases h2 : n / 256 = 0
  ·rw [h2, leB_zero];refine ⟨UInt8.ofNat n, [], rfl, fun e => ?_⟩;have := congrArg UInt8.toNat e;rw [UInt8.toNat_ofNat'] at this;have h3 : (0 : UInt8).toNat = 0 := rfl;omega
  ·obtain ⟨c, t, h3, h4⟩ := ih (n / 256) (by omega) h2;exact ⟨c, t ++ [UInt8.ofNat n], by rw [h3]; rfl, h4⟩
abbrev Re (α : Type) := Except Nat (α × List UInt8)
def takeR (n : Nat) (l : List UInt8) : Re (List UInt8) := if n ≤ l.length then .ok (l.take n, l.drop n) else .error 2
def numR (most : Nat) : List UInt8 → Re Nat
 | [] => .error 2
 | k :: t => if 8 < k.toNat then .error 3 else if t.length < k.toNat then .error 2 else if 0 < k.toNat ∧ t[0]? = some 0 then .error 3
   else if most < valB (t.take k.toNat) then .error 5 else .ok (valB (t.take k.toNat), t.drop k.toNat)
def textR (most : Nat) (l : List UInt8) : Re (List UInt8) := match numR most l with
 | .error x => .error x
 | .ok (v, t) => takeR v t
theorem takeR_app {b t : List UInt8} : takeR b.length (b ++ t) = .ok (b, t) := by
 unfold takeR;rw [if_pos (by simp), List.take_left, List.drop_left]
theorem takeR_len {n : Nat} {b t : List UInt8} (h : b.length = n) : takeR n (b ++ t) = .ok (b, t) := by rw [← h]; exact takeR_app
theorem numR_put {n most : Nat} {t : List UInt8} (h : n ≤ most) (h64 : n ≤ 18446744073709551615) : numR most (numB n ++ t) = .ok (n, t) := by
 have h8 := lenB_64 h64;have e0 : numB n = UInt8.ofNat (lenB n) :: (leB n).reverse := by unfold numB; rfl
 have e1 : (UInt8.ofNat (lenB n)).toNat = ((leB n).reverse).length := by rw [UInt8.toNat_ofNat', List.length_reverse, leB_len]; omega
 rw [e0, List.cons_append];simp only [numR];rw [e1, List.take_left, List.drop_left, valB_leB];have e2 : ((leB n).reverse).length = lenB n := by rw [List.length_reverse, leB_len]
 rw [if_neg (by omega), if_neg (by simp), if_neg, if_neg (by omega)];rintro ⟨h1, h2⟩;have hn : n ≠ 0 := by rintro rfl; rw [e2, lenB_zero] at h1; omega
 obtain ⟨c, t', h3, h4⟩ := leB_last n hn;rw [h3] at h2;simp at h2;exact h4 h2
theorem textR_put {b t : List UInt8} {most : Nat} (h : b.length ≤ most) (h64 : b.length ≤ 18446744073709551615) : textR most (numB b.length ++ (b ++ t)) = .ok (b, t) := by
 unfold textR;rw [numR_put h h64];exact takeR_app
theorem numR_le {most : Nat} {l t : List UInt8} {v : Nat} (h : numR most l = .ok (v, t)) : v ≤ most ∧ v ≤ 18446744073709551615 ∧ t.length ≤ l.length := by
 cases l with
 | nil => cases h
 | cons k l =>
  simp only [numR] at h;split at h
  ·cases h
  ·split at h
   ·cases h
   ·split at h
    ·cases h
    ·split at h
     ·cases h
     ·injection h with h
      injection h with h1 h2
      rename_i h8 _ _ hm;subst h1; subst h2;refine ⟨by omega, valB_64 (by rw [List.length_take]; omega), by simp; omega⟩
theorem takeR_le {n : Nat} {l b t : List UInt8} (h : takeR n l = .ok (b, t)) : b.length = n ∧ t.length ≤ l.length := by
 unfold takeR at h;split at h
 ·injection h with h; injection h with h1 h2
  subst h1; subst h2;rw [List.length_take, List.length_drop]; omega
 ·cases h
theorem textR_le {most : Nat} {l b t : List UInt8} (h : textR most l = .ok (b, t)) : b.length ≤ most ∧ t.length ≤ l.length := by
 unfold textR at h;cases hn : numR most l with
 | error x => rw [hn] at h; cases h
 | ok p =>
  obtain ⟨v, t'⟩ := p;rw [hn] at h;have h1 := numR_le hn;have h2 := takeR_le h;omega
open Go.RowKit Go.Shelf
def brk (x : Nat) : List PanicEntry := [{ v := .iface 128 (.agg #[.int .i64 (x : Int)]), recovered := false }]
def EyeAt (w : World) (Lo Bd g : Nat) (l : List UInt8) : Prop :=
 ∃ A c, Blk w g 130 [.slice A l.length c] ∧ Sl w Bd 1 A l.length (l.map B) ∧ l.length ≤ c ∧ Lo ≤ g ∧ g < Bd ∧ Bd ≤ w.heap.size ∧ (∀ b, A.map Addr.block = some b → Lo ≤ b ∧ b ≠ g)
def ReAt (w : World) (Lo Bd g : Nat) (A : Option Addr) (bs : List UInt8) : Prop := Sl w Bd 1 A bs.length (bs.map B) ∧ Bd ≤ w.heap.size ∧ (∀ b, A.map Addr.block = some b → Lo ≤ b ∧ b ≠ g)
section
variable {w w' : World} {Lo Bd g : Nat} {l : List UInt8}
theorem EyeAt.keep (h : EyeAt w Lo Bd g l) (hk : ∀ k, Lo ≤ k → k < Bd → w'.heap[k]? = w.heap[k]?) (hs : w.heap.size ≤ w'.heap.size) : EyeAt w' Lo Bd g l := by
 obtain ⟨A, c, h1, h2, h3, h4, h5, h6, h7⟩ := h;refine ⟨A, c, (hk g h4 h5).trans h1, ⟨h2.1, fun hn => ?_⟩, h3, h4, h5, by omega, h7⟩;obtain ⟨b, off, e, hb, hc⟩ := h2.2 hn;refine ⟨b, off, e, hb, fun j u hu => ?_⟩;exact (World.cell?_of_block (a := ⟨b, off + j, none⟩) (hk b (h7 b (by rw [e]; rfl)).1 hb)).trans (hc j u hu)
theorem EyeAt.grow (h : EyeAt w Lo Bd g l) (k : Grow w w') : EyeAt w' Lo Bd g l :=
 h.keep (fun i _ hi => k.block i (by obtain ⟨_, _, _, _, _, _, _, h6, _⟩ := h; omega)) k.size
theorem EyeAt.off {q : Nat} (h : EyeAt w Lo Bd g l) (k : w.grownBy w' (some q)) (hq : q < Lo ∨ Bd ≤ q) : EyeAt w' Lo Bd g l :=
 h.keep (fun i h1 h2 => k.block i (by obtain ⟨_, _, _, _, _, _, _, h6, _⟩ := h; omega) (fun e => by injection e with e; omega)) k.size
theorem EyeAt.lt (h : EyeAt w Lo Bd g l) : g < w.heap.size := by obtain ⟨_, _, _, _, _, _, h5, h6, _⟩ := h; omega
theorem EyeAt.lo (h : EyeAt w Lo Bd g l) : Lo ≤ g := by obtain ⟨_, _, _, _, _, h4, _⟩ := h; exact h4
theorem EyeAt.bd (h : EyeAt w Lo Bd g l) : g < Bd ∧ Bd ≤ w.heap.size := by obtain ⟨_, _, _, _, _, _, h5, h6, _⟩ := h; exact ⟨h5, h6⟩
theorem ReAt.sl {A : Option Addr} {bs : List UInt8} (h : ReAt w Lo Bd g A bs) : Sl w w.heap.size 1 A bs.length (bs.map B) := h.1.more h.2.1
theorem grownBy_trans {a b c : World} {r : Option Nat} (h : a.grownBy b r) (k : b.grownBy c r) : a.grownBy c r :=
 ⟨k.os.trans h.os, k.tape.trans h.tape, k.output.trans h.output, Nat.le_trans h.size k.size, fun i hi hn => (k.block i (Nat.lt_of_lt_of_le hi h.size) hn).trans (h.block i hi hn)⟩
theorem grownBy_refl (a : World) (r : Option Nat) : a.grownBy a r := ⟨rfl, rfl, rfl, Nat.le_refl _, fun _ _ _ => rfl⟩
theorem grownBy_grow {a b c : World} {r : Option Nat} (h : a.grownBy b r) (k : Grow b c) : a.grownBy c r := grownBy_trans h (grown_of_below k r)
theorem grownBy_new {a b c : World} {r : Option Nat} {q : Nat} (h : a.grownBy b r) (k : b.grownBy c (some q)) (hq : a.heap.size ≤ q) : a.grownBy c r :=
 ⟨k.os.trans h.os, k.tape.trans h.tape, k.output.trans h.output, Nat.le_trans h.size k.size, fun i hi hn => (k.block i (Nat.lt_of_lt_of_le hi h.size) (fun e => by injection e with e; omega)).trans (h.block i hi hn)⟩
end
theorem efail_any (g x : Nat) (hx : x ≠ 0) (w : World) : Calls Try.prog 71 #[.pointer (some ⟨g, 0, none⟩), .int .i64 (x : Int)] w fun e w' => e = .panicked (brk x) ∧ w = w' := by
 have q1 : ((x : Int) != 0) = true := by simp; omega
 unfold brk
 go_enter Try.func71, Try.ntmps71
 go_wp2
 exact ⟨rfl, rfl, rfl⟩
theorem eleft_any {Lo Bd g : Nat} {l : List UInt8} (w : World) (h : EyeAt w Lo Bd g l) : Calls Try.prog 69 #[.pointer (some ⟨g, 0, none⟩)] w fun e w' => e = .returned (.int .i64 (l.length : Int)) ∧ w = w' := by
 obtain ⟨A, c, h1, h2, h3, h4, h5, h6, h7⟩ := h;have c0 := h1.at_ (i := 0) rfl;clear h1 h2 h7
 go_enter Try.func69, Try.ntmps69
 go_wp2
 go_ret
 exact ⟨rfl, rfl⟩
theorem take_no {Lo Bd g n : Nat} {l : List UInt8} (w : World) (h : EyeAt w Lo Bd g l) (hn : l.length < n) : Calls Try.prog 103 #[.pointer (some ⟨g, 0, none⟩), .int .i64 (n : Int)] w fun e w' => e = .panicked (brk 2) ∧ w = w' := by
 obtain ⟨A, c, h1, h2, h3, h4, h5, h6, h7⟩ := h;have c0 := h1.at_ (i := 0) rfl;clear h1 h2 h7 h3 h4 h5 h6;have d1 : decide ((l.length : Int) < (n : Int)) = true := by simpa using hn
 go_enter Try.func103, Try.ntmps103
 go_wp2_with fail;refine (efail_any g 2 (by omega) _).mono ?_;rintro e w' ⟨rfl, rfl⟩;go_wp2_with fail;exact ⟨rfl, rfl, rfl⟩
theorem cut_map {w : World} {Bd n k : Nat} {A : Option Addr} {xs : List Value} (h : Sl w Bd 1 A n xs) (hk : k ≤ n) : Sl w Bd 1 (A.map (fun x => x.add k)) (n - k) (xs.drop k) := by
 refine ⟨by rw [List.length_drop, h.len]; omega, fun hn => ?_⟩;obtain ⟨b, off, rfl, hb, hc⟩ := h.2 (by omega);refine ⟨b, off + k, ?_, hb, fun j u hu => ?_⟩
 ·simp only [Option.map_some, Addr.add];split <;> simp_all
 ·rw [Nat.add_assoc];exact hc _ u (by rw [← hu, List.getElem?_drop])
theorem map_block {A : Option Addr} {k : Nat} : (A.map (fun x => x.add k)).map Addr.block = A.map Addr.block := by
 cases A with
 | none => rfl
 | some a => simp only [Option.map_some, Addr.add]; split <;> rfl
theorem Sl.first {w : World} {Bd n k : Nat} {A : Option Addr} {xs : List Value} (h : Sl w Bd 1 A n xs) (hk : k ≤ n) : Sl w Bd 1 A k (xs.take k) := by
 refine ⟨by rw [List.length_take, h.len]; omega, fun hn => ?_⟩;obtain ⟨b, off, rfl, hb, hc⟩ := h.2 (by omega);refine ⟨b, off, rfl, hb, fun j u hu => hc _ u ?_⟩;rw [List.getElem?_take] at hu;split at hu
 ·exact hu
 ·cases hu
theorem eye_cut {w : World} {Lo Bd g n c c' : Nat} {l : List UInt8} {A A' : Option Addr} (h1 : Blk w g 130 [.slice A l.length c]) (h2 : Sl w Bd 1 A l.length (l.map B)) (h4 : Lo ≤ g) (h5 : g < Bd) (h6 : Bd ≤ w.heap.size) (h7 : ∀ b, A.map Addr.block = some b → Lo ≤ b ∧ b ≠ g)
  (hn : n ≤ l.length) (hc : l.length - n ≤ c') (hA : A' = A.map (fun x => x.add n) ∨ (A' = A ∧ l.length = n)) :
  ReAt (w.setCell ⟨g, 0, none⟩ (.slice A' (l.length - n) c')) Lo Bd g A (l.take n) ∧ EyeAt (w.setCell ⟨g, 0, none⟩ (.slice A' (l.length - n) c')) Lo Bd g (l.drop n) ∧ w.grownBy (w.setCell ⟨g, 0, none⟩ (.slice A' (l.length - n) c')) (some g) := by
 have hs := grown_set w g 0 (.slice A' (l.length - n) c')
 have keep : ∀ {A : Option Addr} {m : Nat} {xs : List Value}, Sl w Bd 1 A m xs → (∀ b, A.map Addr.block = some b → Lo ≤ b ∧ b ≠ g) → Sl (w.setCell ⟨g, 0, none⟩ (.slice A' (l.length - n) c')) Bd 1 A m xs := by
  intro A m xs h hb;refine ⟨h.1, fun hm => ?_⟩;obtain ⟨b, off, e, hB, hc⟩ := h.2 hm;refine ⟨b, off, e, hB, fun j u hu => ?_⟩;exact (World.cell?_of_block (a := ⟨b, off + j, none⟩) (hs.block b (by omega) (fun e2 => by injection e2 with e2; exact (hb b (by rw [e]; rfl)).2 e2))).trans (hc j u hu)
 have hl1 : (l.take n).length = n := by rw [List.length_take]; omega
 have hl2 : (l.drop n).length = l.length - n := List.length_drop
 have hA7 : ∀ b, A'.map Addr.block = some b → Lo ≤ b ∧ b ≠ g := by
  intro b hb;rcases hA with rfl | ⟨rfl, _⟩
  ·rw [map_block] at hb; exact h7 b hb
  ·exact h7 b hb
 refine ⟨⟨?_, Nat.le_trans h6 hs.size, h7⟩, ⟨A', c', ?_, ?_, by rw [hl2]; exact hc, h4, h5, Nat.le_trans h6 hs.size, hA7⟩, hs⟩
 ·rw [hl1, List.map_take];exact keep (h2.first hn) h7
 ·have := h1.set_ 0 (.slice A' (l.length - n) c');rw [hl2];simpa using this
 ·rw [hl2, List.map_drop];rcases hA with rfl | ⟨rfl, e⟩
  ·exact keep (cut_map h2 hn) hA7
  ·rw [e, Nat.sub_self, List.drop_of_length_le (by rw [List.length_map]; omega)];exact Sl.nil
theorem take_yes {Lo Bd g n : Nat} {l : List UInt8} (w : World) (h : EyeAt w Lo Bd g l) (hn : n ≤ l.length) : Calls Try.prog 103 #[.pointer (some ⟨g, 0, none⟩), .int .i64 (n : Int)] w fun e w' => ∃ A', e = .returned (.slice A' n n) ∧ ReAt w' Lo Bd g A' (l.take n) ∧ EyeAt w' Lo Bd g (l.drop n) ∧ w.grownBy w' (some g) := by
 obtain ⟨A, c, h1, h2, h3, h4, h5, h6, h7⟩ := h;have c0 := h1.at_ (i := 0) rfl;have f0 := h1.frozen 0;have H1 := kp h1; have H2 := kp h2; have H7 := kp h7;clear h1 h2 h7;have d1 : decide ((l.length : Int) < (n : Int)) = false := by simp; omega
 go_enter Try.func103, Try.ntmps103
 go_wp2_with fail
 ·go_ret
  exact ⟨A, rfl, eye_cut H1.o H2.o h4 h5 h6 H7.o hn (by omega) (.inr ⟨rfl, by omega⟩)⟩
 ·go_ret
  exact ⟨A, rfl, eye_cut H1.o H2.o h4 h5 h6 H7.o hn (by omega) (.inl rfl)⟩
end Go.Proofs.Ytobmldegjajocaa
namespace Go.Proofs.Ytobmldegjajocaa
open Go.RowKit Go.Shelf
theorem takeNum_nil {Lo Bd g most : Nat} (w : World) (h : EyeAt w Lo Bd g []) : Calls Try.prog 70 #[.pointer (some ⟨g, 0, none⟩), .int .u64 (most : Int)] w fun e w' => e = .panicked (brk 2) ∧ w = w' := by
 have H := kp h;clear h
 go_enter Try.func70, Try.ntmps70
 go_wp2_with fail;refine (take_no (n := 1) _ H.o (by simp)).mono ?_;rintro e w' ⟨rfl, rfl⟩;go_wp2_with fail;exact ⟨rfl, rfl, rfl⟩
theorem shl_u64 (v : Nat) (h : v * 256 ≤ 18446744073709551615) : IntKind.u64.wrap ((v : Int) * 2 ^ 8) = ((v * 256 : Nat) : Int) := by
 have e : (v : Int) * 2 ^ 8 = ((v * 256 : Nat) : Int) := by simp
 rw [e, IntKind.wrap_u64]; omega
theorem or_u64 (v c : Nat) (hc : c < 256) (hv : v * 256 + 255 ≤ 18446744073709551615) : bits BinOp.or IntKind.u64 ((v : Int) * 256) (c : Int) = ((v * 256 + c : Nat) : Int) := by
 have h : Op.intBits .or .u64 ((v : Int) * 256) (c : Int) = pure (.int .u64 (IntKind.u64.wrap (((BitVec.ofInt 64 ((v : Int) * 256) ||| BitVec.ofInt 64 (c : Int)).toNat : Nat) : Int))) := rfl;rw [intBits_or] at h;injection h with h
 injection h with _ h
 rw [h];have e1 : (BitVec.ofInt 64 ((v : Int) * 256)).toNat = 2 ^ 8 * v := by rw [BitVec.toNat_ofInt]; omega
 have e2 : (BitVec.ofInt 64 (c : Int)).toNat = c := by rw [BitVec.toNat_ofInt]; omega
 rw [BitVec.toNat_or, e1, e2, ← Nat.two_pow_add_eq_or_of_lt (by omega), IntKind.wrap_u64];omega
def EyeR {α : Type} (r : Re α) (val : α → Value) (w w' : World) (Lo Bd g : Nat) (e : Ending) : Prop := w.grownBy w' (some g) ∧ match r with
  | .error x => e = .panicked (brk x)
  | .ok (v, l') => e = .returned (val v) ∧ EyeAt w' Lo Bd g l'
theorem EyeR.err {α : Type} {r : Re α} {val : α → Value} {w w' : World} {Lo Bd g : Nat} {e : Ending} {x : Nat} (h : r = .error x) (he : e = .panicked (brk x)) (hg : w.grownBy w' (some g)) : EyeR r val w w' Lo Bd g e := by
 subst h; exact ⟨hg, he⟩
theorem EyeR.ok {α : Type} {r : Re α} {val : α → Value} {w w' : World} {Lo Bd g : Nat} {e : Ending} {v : α} {l' : List UInt8} (h : r = .ok (v, l')) (he : e = .returned (val v)) (hE : EyeAt w' Lo Bd g l') (hg : w.grownBy w' (some g)) : EyeR r val w w' Lo Bd g e := by
 subst h; exact ⟨hg, he, hE⟩
theorem EyeR.get {α : Type} {r : Re α} {val : α → Value} {w w' : World} {Lo Bd g : Nat} {e : Ending} (h : EyeR r val w w' Lo Bd g e) : w.grownBy w' (some g) ∧ ((∃ x, r = .error x ∧ e = .panicked (brk x)) ∨ (∃ v l', r = .ok (v, l') ∧ e = .returned (val v) ∧ EyeAt w' Lo Bd g l')) := by
 obtain ⟨h1, h2⟩ := h;refine ⟨h1, ?_⟩;cases r with
 | error x => exact .inl ⟨x, rfl, h2⟩
 | ok p => exact .inr ⟨p.1, p.2, rfl, h2.1, h2.2⟩
theorem takeNum_cons {Lo Bd g most : Nat} {k : UInt8} {t : List UInt8} (w : World) (h : EyeAt w Lo Bd g (k :: t)) : Calls Try.prog 70 #[.pointer (some ⟨g, 0, none⟩), .int .u64 (most : Int)] w fun e w' => EyeR (numR most (k :: t)) (fun v => .int .u64 (v : Int)) w w' Lo Bd g e := by
 have H := kp h;clear h;obtain ⟨kn, hkn⟩ := xe k.toNat;obtain ⟨res, hres⟩ := xe (numR most (k :: t));rw [← hres];simp only [numR] at hres;rw [← hkn] at hres;have HR := kp hres;have HK := kp hkn;have hk8 : kn < 256 := by rw [hkn]; exact k.toNat_lt
 clear hkn hres
 go_enter Try.func70, Try.ntmps70
 go_wp2_with fail;refine (take_yes (n := 1) _ H.o (by simp)).mono ?_;rintro e w1 ⟨A1, rfl, hr1, he1, hg1⟩;obtain ⟨b1, o1, u1, rfl, hb1, hu1, hc1⟩ := hr1.1.at_ (k := 0) (by simp)
 have hu2 : u1 = .int .u8 (kn : Int) := by
  simp at hu1;rw [← hu1, HK.o]; rfl
 subst hu2;rw [Nat.add_zero] at hc1;have HE1 := kq (EyeAt w1 Lo Bd g t) he1;have HG1 := kp hg1;clear hr1 he1 hg1 hu1 hb1 H;have qw : IntKind.i64.wrap (kn : Int) = (kn : Int) := IntWalk.i64_in _ (by omega);by_cases h8 : 8 < kn
 ·have d8 : decide ((8 : Int) < (kn : Int)) = true := by simp; omega
  go_wp2_with fail;refine (efail_any g 3 (by omega) _).mono ?_;rintro e w' ⟨rfl, rfl⟩;go_wp2_with fail;exact ⟨by first | trivial | rfl, .err (x := 3) (by rw [HR.o, if_pos h8]) rfl HG1.o⟩
 have d8 : decide ((8 : Int) < (kn : Int)) = false := by simp; omega
 by_cases ht : t.length < kn
 ·go_wp2_with fail;refine (take_no _ HE1.o ht).mono ?_;rintro e w' ⟨rfl, rfl⟩;go_wp2_with fail;exact ⟨by first | trivial | rfl, .err (x := 2) (by rw [HR.o, if_neg h8, if_pos ht]) rfl HG1.o⟩
 go_wp2_with fail;refine (take_yes _ HE1.o (Nat.le_of_not_lt ht)).mono ?_;rintro e w2 ⟨A2, rfl, hr2, he2, hg2⟩;obtain ⟨bs, hbs⟩ := xe (t.take kn);rw [← hbs] at hr2;have hbl : bs.length = kn := by rw [hbs, List.length_take]; omega
 have HBL := kp hbl;have HBS := kp hbs;have HR2 := kq (Sl w2 Bd 1 A2 kn (bs.map B)) (by rw [← hbl]; exact hr2.1);have HE2 := kp he2;have HG2 := kp (grownBy_trans HG1.o hg2);clear hr2 he2 hg2 hbl hbs hc1 HE1 HG1 qw d8;go_wp2_with fail;go_loopw [6, 22] (fun vv iv wq => ∃ j : Nat, j ≤ kn ∧ iv = .int .i64 j ∧ vv = .int .u64 ((valB (bs.take j) : Nat) : Int) ∧ wq = w2 ∧ Hid (0 < j → bs[0]? ≠ some 0)) (fun _ iv _ => kn - (intOf iv).toNat)
 case atStart => exact ⟨0, Nat.zero_le _, rfl, rfl, rfl, kp (fun h => by omega)⟩
 case round =>
  obtain ⟨j, hj, rfl, rfl, rfl, hz⟩ := hrel;by_cases hlt : j < kn
  ·obtain ⟨b2, o2, u2, rfl, hb2, hu2, hc2⟩ := HR2.o.at_ hlt;rw [List.getElem?_map] at hu2;obtain ⟨c, hcj, rfl⟩ := Option.map_eq_some_iff.1 hu2;obtain ⟨cn, hcn⟩ := xe c.toNat;have hc256 : cn < 256 := by rw [hcn]; exact c.toNat_lt
   have hc3 : wr.cell? ⟨b2, o2 + j, none⟩ = some (.int .u8 (cn : Int)) := by rw [hcn]; exact hc2
   have HC := kp hcj;have HCN := kp hcn;obtain ⟨v, hv⟩ := xe (valB (bs.take j));have HV := kp hv
   have hv64 : v * 256 + 255 ≤ 18446744073709551615 := by
    have := valB_lt 7 (bs.take j) (by rw [List.length_take]; omega);rw [← hv] at this; omega
   rw [← hv];clear hu2 hb2 hcj hc2 hcn hv;obtain ⟨p, hp⟩ : ∃ p, ((j : Int) == 0) = p := ⟨_, rfl⟩;obtain ⟨q, hq⟩ : ∃ q, ((cn : Int) == 0) = q := ⟨_, rfl⟩
   have HPQ := kp (show p = true ∧ q = true ↔ j = 0 ∧ c = 0 by
    rw [← hp, ← hq, beq_iff_eq, beq_iff_eq];have h1 := HCN.o;constructor
    ·rintro ⟨a, b⟩;exact ⟨by omega, UInt8.toNat_inj.1 (by show c.toNat = 0; omega)⟩
    ·rintro ⟨a, b⟩;subst b
     exact ⟨by omega, by rw [h1]; rfl⟩)
   have s1 := shl_u64 v (by omega);have s2 : IntKind.u64.wrap (cn : Int) = (cn : Int) := by rw [IntKind.wrap_u64]; omega
   cases p with
   | true =>
    cases q with
    | true =>
     go_wp2_with fail;refine (efail_any g 3 (by omega) _).mono ?_;rintro e w' ⟨rfl, rfl⟩;go_wp2_with fail;have hjc := HPQ.o.1 (by simp);refine ⟨by first | trivial | rfl, .err (x := 3) ?_ rfl HG2.o⟩;have h1 := HC.o;rw [hjc.1, hjc.2, HBS.o, List.getElem?_take, if_pos (by omega)] at h1;rw [HR.o, if_neg h8, if_neg ht, if_pos ⟨by omega, h1⟩]
    | false =>
     have hnz : ¬ (j = 0 ∧ c = 0) := fun h => by have := HPQ.o.2 h; simp at this
     have HST := kp (show bits BinOp.or IntKind.u64 ((v : Int) * 256) (cn : Int) = ((valB (bs.take (j + 1)) : Nat) : Int) by
      rw [or_u64 v cn hc256 hv64, take_snoc HC.o, valB_snoc, ← HV.o, HCN.o])
     have HZ := kp (show 0 < j + 1 → bs[0]? ≠ some 0 from fun _ h0 => by
      by_cases hj0 : j = 0
      ·have h1 := HC.o;rw [hj0] at h1;rw [h0] at h1;injection h1 with h1
       exact hnz ⟨hj0, h1.symm⟩
      ·exact hz.o (by omega) h0)
     clear hnz;go_wp2_with fail;go_roundw
     case rel => exact ⟨j + 1, by omega, by go_num, by rw [HST.o], by first | trivial | rfl, HZ⟩
     case measure => simp [intOf]; omega
   | false =>
    have hnz : ¬ (j = 0 ∧ c = 0) := fun h => by have := HPQ.o.2 h; simp at this
    have HST := kp (show bits BinOp.or IntKind.u64 ((v : Int) * 256) (cn : Int) = ((valB (bs.take (j + 1)) : Nat) : Int) by
     rw [or_u64 v cn hc256 hv64, take_snoc HC.o, valB_snoc, ← HV.o, HCN.o])
    have HZ := kp (show 0 < j + 1 → bs[0]? ≠ some 0 from fun _ h0 => by
     by_cases hj0 : j = 0
     ·have h1 := HC.o;rw [hj0] at h1;rw [h0] at h1;injection h1 with h1
      exact hnz ⟨hj0, h1.symm⟩
     ·exact hz.o (by omega) h0)
    clear hnz;go_wp2_with fail;go_roundw
    case rel => exact ⟨j + 1, by omega, by go_num, by rw [HST.o], by first | trivial | rfl, HZ⟩
    case measure => simp [intOf]; omega
  ·obtain rfl : j = kn := by omega
   have hall : bs.take j = bs := List.take_of_length_le (by rw [HBL.o]; omega);obtain ⟨v, hv⟩ := xe (valB (bs.take j));have HV := kq (v = valB (t.take j)) (by rw [hv, hall, HBS.o])
   have HNZ := kp (show ¬ (0 < j ∧ t[0]? = some 0) from fun h => by
    have h1 := hz.o h.1;rw [HBS.o, List.getElem?_take, if_pos h.1] at h1
    exact h1 h.2)
   rw [← hv];clear hv hall;by_cases hm : most < v
   ·have d1 : decide ((most : Int) < (v : Int)) = true := by simp; omega
    go_wp2_with fail;refine (efail_any g 5 (by omega) _).mono ?_;rintro e w' ⟨rfl, rfl⟩;go_wp2_with fail;exact ⟨by first | trivial | rfl, .err (x := 5) (by rw [HR.o, if_neg h8, if_neg ht, if_neg HNZ.o, ← HV.o, if_pos hm]) rfl HG2.o⟩
   ·have d1 : decide ((most : Int) < (v : Int)) = false := by simp; omega
    go_wp2_with fail;go_ret
    exact .ok (by rw [HR.o, if_neg h8, if_neg ht, if_neg HNZ.o, ← HV.o, if_neg hm]) rfl HE2.o HG2.o
theorem enum_any {Lo Bd g most : Nat} {l : List UInt8} (w : World) (h : EyeAt w Lo Bd g l) : Calls Try.prog 70 #[.pointer (some ⟨g, 0, none⟩), .int .u64 (most : Int)] w fun e w' => EyeR (numR most l) (fun v => .int .u64 (v : Int)) w w' Lo Bd g e := by
 cases l with
 | nil =>
  refine (takeNum_nil w h).mono ?_;rintro e w' ⟨rfl, rfl⟩;exact .err rfl rfl (grownBy_refl _ _)
 | cons k t => exact takeNum_cons w h
theorem row_id0 : RowT Try.prog 29 32 := ⟨_, Try.underlying29, by kernel_rfl, by kernel_rfl⟩
theorem run_arr32 (a : Option Addr) (w : World) : (Instr.arrayAt 29 (.slice a 32 32)).run Try.prog w = .ok (.pointer a) w := run_arrayAt w _ _ 32 a 32 32 Try.underlying29 (Nat.le_refl _)
theorem eid_any {Lo Bd g : Nat} {l : List UInt8} (w : World) (h : EyeAt w Lo Bd g l) : Calls Try.prog 72 #[.pointer (some ⟨g, 0, none⟩)] w fun e w' => EyeR (takeR 32 l) (fun d => .agg (d.map B).toArray) w w' Lo Bd g e := by
 have H := kp h;clear h;by_cases hn : l.length < 32
 ·go_enter Try.func72, Try.ntmps72
  go_wp2_with (with_reducible refine wal 2 zero_id ?_);intro w1 hb1 hbw1 hsz1;have HB1 := kp hbw1;have H1 := kp (H.o.grow hbw1);clear hb1 hbw1 hsz1;go_wp2_with fail;refine (take_no (n := 32) _ H1.o hn).mono ?_;rintro e w' ⟨rfl, rfl⟩;go_wp2_with fail;exact ⟨by first | trivial | rfl, .err (x := 2) (by unfold takeR; rw [if_neg (by omega)]) rfl (grown_of_below HB1.o _)⟩
 ·go_enter Try.func72, Try.ntmps72
  go_wp2_with (with_reducible refine wal 2 zero_id ?_);intro w1 hb1 hbw1 hsz1;have HB1 := kp hb1;have HBW1 := kp hbw1;have H1 := kp (H.o.grow hbw1);clear hb1 hbw1 hsz1;go_wp2_with fail;refine (take_yes (n := 32) _ H1.o (by omega)).mono ?_;rintro e w2 ⟨A2, rfl, hr2, he2, hg2⟩;have HR2 := kp hr2;have HE2 := kp he2;have HG2 := kp hg2;clear hr2 he2 hg2;have har := run_arr32 A2 w2;obtain ⟨b2, o2, rfl, _, hc2⟩ := HR2.o.1.2 (by rw [List.length_take]; omega);obtain ⟨ds, hds⟩ := xe ((l.take 32).map B);rw [← hds] at hc2;have HD := kp hds;have HC2 := kp hc2;have HL2 := kq (ds.length = 32) (by rw [hds, List.length_map, List.length_take]; omega);have HB2 := kp (HB1.o.grown HG2.o (fun e => by injection e with e; have := H.o.lt; omega));have HQ := kp (H.o.bd);have HOT := kq (∀ u ∈ ds, u.oneCell' = true) (by rw [hds]; exact all_bytes _);clear hc2 hds;go_wp2_with (with_reducible first | refine wlm 6 row_id HC2.o HL2.o ?_ | refine wsb row_id HB2.o rfl HL2.o HOT.o ?_);intro w3 hb3 hg3 hsz3;have HB3 := kp hb3;have HG3 := kq (w.grownBy w3 (some g)) (grownBy_new (grownBy_trans (grown_of_below HBW1.o _) HG2.o) hg3 (Nat.le_refl _));have HE3 := kp (HE2.o.off hg3 (.inr HQ.o.2));clear hb3 hg3 hsz3;go_wp2_with fail;refine ret_cell rfl row_id0 HB3.o rfl HL2.o rfl ?_;exact .ok (by unfold takeR; rw [if_pos (by omega)]) (by rw [HD.o]) HE3.o HG3.o
theorem etext_any {Lo Bd g most : Nat} {l : List UInt8} (w : World) (h : EyeAt w Lo Bd g l) (hm : most ≤ 1000000) : Calls Try.prog 73 #[.pointer (some ⟨g, 0, none⟩), .int .i64 (most : Int)] w fun e w' => w.grownBy w' (some g) ∧ ((∃ x, textR most l = .error x ∧ e = .panicked (brk x)) ∨
  (∃ bs l' A c, textR most l = .ok (bs, l') ∧ e = .returned (.slice A bs.length c) ∧ OwnAt w' w.heap.size A bs.length c (bs.map B) ∧ bs.length ≤ c ∧ EyeAt w' Lo Bd g l')) := by
 have H := kp h;clear h;have q1 : max (most : Int) 0 = (most : Int) := by omega
 have q2 : IntKind.u64.wrap (most : Int) = (most : Int) := conv_u64' (by omega);obtain ⟨tr, htr⟩ := xe (textR most l);rw [← htr];have HTR := kp htr;clear htr
 go_enter Try.func73, Try.ntmps73
 go_wp2_with fail;refine (enum_any w H.o).mono ?_;rintro e w1 hr;obtain ⟨hg1, ⟨x, he, rfl⟩ | ⟨v, l1, he, rfl, hE⟩⟩ := hr.get
 ·go_wp2_with fail;exact ⟨by first | trivial | rfl, hg1, .inl ⟨x, by rw [HTR.o]; unfold textR; rw [he], rfl⟩⟩
 ·have hv := numR_le he;have HE := kp hE;have HG := kp hg1;have HV := kp he;have hv1 := hv.1;have q3 : IntKind.i64.wrap (v : Int) = (v : Int) := IntWalk.i64_in _ (by omega);clear hE hg1 he hv hr;by_cases hl : l1.length < v
  ·go_wp2_with fail;refine (take_no _ HE.o hl).mono ?_;rintro e w' ⟨rfl, rfl⟩;go_wp2_with fail;exact ⟨by first | trivial | rfl, HG.o, .inl ⟨2, by rw [HTR.o]; unfold textR; rw [HV.o]; unfold takeR; simp only; rw [if_neg (by omega)], rfl⟩⟩
  ·go_wp2_with fail;refine (take_yes _ HE.o (Nat.le_of_not_lt hl)).mono ?_;rintro e w2 ⟨A2, rfl, hr2, he2, hg2⟩;have hbl : (l1.take v).length = v := by rw [List.length_take]; omega
   have HS2 := kq (Sl w2 w2.heap.size 1 A2 v ((l1.take v).map B)) (by have := hr2.sl; rwa [hbl] at this);have HE2 := kp he2;have HG2 := kp (grownBy_trans HG.o hg2);have HSZ := kp HG2.o.size;clear hr2 he2 hg2;go_wp2_with fail;refine (bclone_any A2 v v (l1.take v) _ HS2.o (by omega)).mono ?_;rintro e w3 ⟨A3, c3, rfl, ho, hc, hg⟩;go_wp2_with fail;go_ret
   refine ⟨grownBy_grow HG2.o hg, .inr ⟨l1.take v, l1.drop v, A3, c3, by rw [HTR.o]; unfold textR; rw [HV.o]; unfold takeR; simp only; rw [if_pos (by omega)], by rw [hbl]; rfl, ?_, by rw [hbl]; exact hc, HE2.o.grow hg⟩⟩;rw [hbl];exact own_base ho HSZ.o
theorem splice_length {L cs : List Value} {off n : Nat} (h : off + cs.length ≤ L.length) (hn : L.length = n) : (splice L off cs).length = n := by
 unfold splice; simp only [List.length_append, List.length_take, List.length_drop]; omega
theorem Sl.back {w w' : World} {Bd sz n : Nat} {A : Option Addr} {xs : List Value} (h : Sl w' Bd sz A n xs) (hb : Below Bd w w') : Sl w Bd sz A n xs := h.keep fun p hp => (hb.cell hp).symm
def SzG (w : World) (n : Nat) : Prop := n ≤ w.heap.size
theorem SzG.grow {w w' : World} {n : Nat} (h : SzG w n) (k : Grow w w') : SzG w' n := Nat.le_trans h k.size
def nilS : Value := .slice none 0 0
def fieldV (k n : Int) (b : Value) (d : List UInt8) : List Value := [.int .i64 k, .int .u64 n, b] ++ d.map B
def gotV (f : List Value) (e : Int) (left : Value) : List Value := f ++ [.int .i64 e, left]
def noF : List Value := fieldV 0 0 nilS zeroD
theorem fieldV_cl {k n : Int} {b : Value} {d : List UInt8} (hb : b.oneCell' = true) (hd : d.length = 32) : Cl 35 (fieldV k n b d) := by
 refine ⟨by simp [fieldV, hd], fun u hu => ?_⟩;simp only [fieldV, List.mem_append, List.mem_cons, List.not_mem_nil, or_false, List.mem_map] at hu;rcases hu with (rfl | rfl | rfl) | ⟨x, _, rfl⟩
 ·rfl
 ·rfl
 ·exact hb
 ·rfl
theorem gotV_cl {f : List Value} {e : Int} {l : Value} (hf : Cl 35 f) (hl : l.oneCell' = true) : Cl 37 (gotV f e l) := by
 refine ⟨by simp [gotV, hf.1], fun u hu => ?_⟩;simp only [gotV, List.mem_append, List.mem_cons, List.not_mem_nil, or_false] at hu;rcases hu with h | rfl | rfl
 ·exact hf.2 u h
 ·rfl
 ·exact hl
theorem noF_cl : Cl 35 noF := fieldV_cl rfl (by simp [zeroD])
theorem gotV_at {f : List Value} {e : Int} {l : Value} (hf : Cl 35 f) : (gotV f e l)[35]? = some (.int .i64 e) ∧ (gotV f e l)[36]? = some l ∧ ∀ (j : Nat) (v : Value), f[j]? = some v → (gotV f e l)[j]? = some v := by
 refine ⟨?_, ?_, fun j v h => ?_⟩
 ·unfold gotV; rw [List.getElem?_append_right (by rw [hf.1]; omega), hf.1]; rfl
 ·unfold gotV; rw [List.getElem?_append_right (by rw [hf.1]; omega), hf.1]; rfl
 ·unfold gotV; rw [List.getElem?_append_left (List.getElem?_eq_some_iff.1 h).1]; exact h
theorem row_fld : RowT Try.prog 93 35 := ⟨_, Try.underlying93, by kernel_rfl, by kernel_rfl⟩
theorem row_got : RowT Try.prog 142 37 := ⟨_, Try.underlying142, by kernel_rfl, by kernel_rfl⟩
theorem zero_fld : (Try.prog.info? 93).map (·.zero) = some (some (.agg noF.toArray)) := by kernel_rfl
theorem zero_got : (Try.prog.info? 142).map (·.zero) = some (some (.agg (gotV noF 0 nilS).toArray)) := by kernel_rfl
theorem len_fld : noF.length = 35 := noF_cl.1
theorem len_got : (gotV noF 0 nilS).length = 37 := (gotV_cl noF_cl rfl).1
theorem built_fld0 (parts : List (Nat × Value)) : Try.prog.built 93 parts = Instr.fill (fun i => (#[(0, 1), (1, 1), (2, 1), (3, 32)] : Array (Nat × Nat))[i]?) noF.toArray parts := by kernel_rfl
theorem built_got0 (parts : List (Nat × Value)) : Try.prog.built 142 parts = Instr.fill (fun i => (#[(0, 35), (35, 1), (36, 1)] : Array (Nat × Nat))[i]?) (gotV noF 0 nilS).toArray parts := by kernel_rfl
theorem bt_fldk {k : Int} : Try.prog.built 93 [(0, .int .i64 k)] = some (fieldV k 0 nilS zeroD).toArray := by
 rw [built_fld0, fill_cons (off := 0) (s := 1) (cs := [.int .i64 k]) rfl rfl rfl (by rw [len_fld]; omega), fill_nil]; rfl
theorem bt_fldn {n : Int} : Try.prog.built 93 [(1, .int .u64 n)] = some (fieldV 0 n nilS zeroD).toArray := by
 rw [built_fld0, fill_cons (off := 1) (s := 1) (cs := [.int .u64 n]) rfl rfl rfl (by rw [len_fld]; omega), fill_nil]; rfl
theorem bt_fldkn {k n : Int} : Try.prog.built 93 [(0, .int .i64 k), (1, .int .u64 n)] = some (fieldV k n nilS zeroD).toArray := by
 rw [built_fld0, fill_cons (off := 0) (s := 1) (cs := [.int .i64 k]) rfl rfl rfl (by rw [len_fld]; omega), fill_cons (off := 1) (s := 1) (cs := [.int .u64 n]) rfl rfl rfl (by simp [splice, noF, fieldV]), fill_nil]; rfl
theorem bt_fldb {k : Int} {A : Option Addr} {n c : Nat} : Try.prog.built 93 [(0, .int .i64 k), (2, .slice A n c)] = some (fieldV k 0 (.slice A n c) zeroD).toArray := by
 rw [built_fld0, fill_cons (off := 0) (s := 1) (cs := [.int .i64 k]) rfl rfl rfl (by rw [len_fld]; omega), fill_cons (off := 2) (s := 1) (cs := [.slice A n c]) rfl rfl rfl (by simp [splice, noF, fieldV]), fill_nil]; rfl
theorem bt_gote {x : Int} : Try.prog.built 142 [(1, .int .i64 x)] = some (gotV noF x nilS).toArray := by
 rw [built_got0, fill_cons (off := 35) (s := 1) (cs := [.int .i64 x]) rfl rfl rfl (by rw [len_got]; omega), fill_nil]; rfl
theorem bt_got {f : List Value} {A : Option Addr} {n c : Nat} (hf : Cl 35 f) : Try.prog.built 142 [(0, .agg f.toArray), (2, .slice A n c)] = some (gotV f 0 (.slice A n c)).toArray := by
 have e1 : splice (gotV noF 0 nilS) 0 f = gotV f 0 nilS := by
  have := splice_mid (pre := []) (old := noF) (post := [Value.int .i64 0, nilS]) (new := f) (off := 0) rfl (by rw [hf.1, noF_cl.1]);exact this
 rw [built_got0, fill_cons (off := 0) (s := 35) (cs := f) rfl rfl hf.1 (by rw [len_got]; omega), e1,
  fill_cons (off := 36) (s := 1) (cs := [.slice A n c]) rfl rfl rfl (by rw [(gotV_cl hf rfl).1]; omega), fill_nil]
 have h2 : splice (gotV f 0 nilS) 36 [.slice A n c] = gotV f 0 (.slice A n c) := by
  have e : gotV f 0 nilS = (f ++ [.int .i64 0]) ++ ([nilS] ++ []) := by simp [gotV]
  rw [e, splice_mid (pre := f ++ [Value.int .i64 0]) (old := [nilS]) (post := []) (new := [Value.slice A n c]) (off := 36) (by simp [hf.1]) rfl]; simp [gotV]
 rw [h2]
def GotR {α : Type} (r : Re α) (fv : α → World → List Value → Prop) (Bd : Nat) (w w' : World) (e : Ending) : Prop := Grow w w' ∧ match r with
 | .error x => e = .returned (.agg (gotV noF (x : Int) nilS).toArray)
 | .ok (v, t) => ∃ f A c, e = .returned (.agg (gotV f 0 (.slice A t.length c)).toArray) ∧ Cl 35 f ∧ fv v w' f ∧ Sl w' Bd 1 A t.length (t.map B) ∧ t.length ≤ c
theorem GotR.err {Bd : Nat} {α : Type} {r : Re α} {fv : α → World → List Value → Prop} {w w' : World} {e : Ending} {x : Nat} (hr : r = .error x) (he : e = .returned (.agg (gotV noF (x : Int) nilS).toArray)) (hg : Grow w w') : GotR r fv Bd w w' e := by
 subst hr; exact ⟨hg, he⟩
theorem GotR.ok {Bd : Nat} {α : Type} {r : Re α} {fv : α → World → List Value → Prop} {w w' : World} {e : Ending} {v : α} {t : List UInt8} {f : List Value} {A : Option Addr} {c : Nat} (hr : r = .ok (v, t)) (he : e = .returned (.agg (gotV f 0 (.slice A t.length c)).toArray)) (hf : Cl 35 f) (hv : fv v w' f)
  (hs : Sl w' Bd 1 A t.length (t.map B)) (hc : t.length ≤ c) (hg : Grow w w') : GotR r fv Bd w w' e := by
 subst hr; exact ⟨hg, f, A, c, he, hf, hv, hs, hc⟩
theorem GotR.get {Bd : Nat} {α : Type} {r : Re α} {fv : α → World → List Value → Prop} {w w' : World} {e : Ending} (h : GotR r fv Bd w w' e) : Grow w w' ∧ ((∃ x, r = .error x ∧ e = .returned (.agg (gotV noF (x : Int) nilS).toArray)) ∨
  ∃ v t f A c, r = .ok (v, t) ∧ e = .returned (.agg (gotV f 0 (.slice A t.length c)).toArray) ∧ Cl 35 f ∧ fv v w' f ∧ Sl w' Bd 1 A t.length (t.map B) ∧ t.length ≤ c) := by
 obtain ⟨h1, h2⟩ := h;refine ⟨h1, ?_⟩;cases r with
 | error x => exact .inl ⟨x, rfl, h2⟩
 | ok p => obtain ⟨f, A, c, h3⟩ := h2; exact .inr ⟨p.1, p.2, f, A, c, rfl, h3⟩
def numF (v : Nat) (w : World) (f : List Value) : Prop := f = fieldV 0 (v : Int) nilS zeroD
def idF (d : List UInt8) (w : World) (f : List Value) : Prop := f = fieldV 2 0 nilS d
def textF (Bd : Nat) (b : List UInt8) (w : World) (f : List Value) : Prop := ∃ A c, f = fieldV 1 0 (.slice A b.length c) zeroD ∧ Sl w Bd 1 A b.length (b.map B) ∧ b.length ≤ c
theorem valB_cons {c : UInt8} {l : List UInt8} {k : Nat} {x : UInt8} (h : l[k]? = some x) : valB (l.take (k + 1)) = valB (l.take k) * 256 + x.toNat := by
 rw [take_snoc h, valB_snoc]
end Go.Proofs.Ytobmldegjajocaa

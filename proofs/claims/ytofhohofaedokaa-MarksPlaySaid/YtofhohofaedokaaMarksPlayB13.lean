/- What an eye reads of bytes (plain). No program in sight. -/
import Derived.Test.YtofhohofaedokaaMarksPlayB7
import Derived.Test.YtofhohofaedokaaMarksPlayB8
import Derived.Laws.Cover3
import Derived.Test.YtofhohofaedokaaMarksPlayB6
import Derived.Test.YtofhohofaedokaaMarksPlayB12
import Derived.Test.YtofhohofaedokaaMarksPlayB4
import Derived.Test.YtofhohofaedokaaMarksPlayB9
import Derived.Test.YtofhohofaedokaaMarksPlayB11
import Derived.Test.YtofhohofaedokaaMarksPlayB10
set_option linter.unusedSimpArgs false
/- What an eye reads of bytes (plain). No program in sight. -/
namespace Go.Proofs.Ytofhohofaedokaa
set_option linter.unusedVariables false

/-- The number of bytes, the greatest first. -/
def valB (l : List UInt8) : Nat := l.foldl (fun v c => v * 256 + c.toNat) 0
theorem valB_nil : valB [] = 0 := rfl
theorem valB_snoc (l : List UInt8) (c : UInt8) : valB (l ++ [c]) = valB l * 256 + c.toNat := by unfold valB; rw [List.foldl_append]; rfl
theorem valB_lt : ∀ (n : Nat) (l : List UInt8), l.length ≤ n → valB l < 256 ^ n
  | 0, l, h => by obtain rfl : l = [] := List.eq_nil_of_length_eq_zero (by omega); simp [valB]
  | n + 1, l, h => by
    rcases List.eq_nil_or_concat l with rfl | ⟨t, c, rfl⟩
    · exact Nat.pow_pos (by omega)
    · rw [List.concat_eq_append, valB_snoc]
      have h1 := valB_lt n t (by rw [List.concat_eq_append, List.length_append] at h; simp at h; omega)
      have h2 := c.toNat_lt
      rw [Nat.pow_succ]; omega
theorem valB_64 {l : List UInt8} (h : l.length ≤ 8) : valB l ≤ 18446744073709551615 := by have := valB_lt 8 l h; omega
theorem valB_leB : ∀ (n : Nat), valB (leB n).reverse = n := by
  intro n
  induction n using Nat.strongRecOn with
  | _ n ih =>
    by_cases h : n = 0
    · rw [h, leB_zero]; rfl
    · rw [leB_pos h, List.reverse_cons, valB_snoc, ih (n / 256) (by omega), UInt8.toNat_ofNat']
      omega
theorem leB_last : ∀ (n : Nat), n ≠ 0 → ∃ c t, (leB n).reverse = c :: t ∧ c ≠ 0 := by
  intro n
  induction n using Nat.strongRecOn with
  | _ n ih =>
    intro h
    rw [leB_pos h, List.reverse_cons]
    by_cases h2 : n / 256 = 0
    · rw [h2, leB_zero]
      refine ⟨UInt8.ofNat n, [], rfl, fun e => ?_⟩
      have := congrArg UInt8.toNat e
      rw [UInt8.toNat_ofNat'] at this
      have h3 : (0 : UInt8).toNat = 0 := rfl
      omega
    · obtain ⟨c, t, h3, h4⟩ := ih (n / 256) (by omega) h2
      exact ⟨c, t ++ [UInt8.ofNat n], by rw [h3]; rfl, h4⟩

abbrev Rd (α : Type) := Except Nat (α × List UInt8)
def takeR (n : Nat) (l : List UInt8) : Rd (List UInt8) := if n ≤ l.length then .ok (l.take n, l.drop n) else .error 2
/-- The next number. -/
def numR (most : Nat) : List UInt8 → Rd Nat
  | [] => .error 2
  | k :: t => if 8 < k.toNat then .error 3 else if t.length < k.toNat then .error 2 else if 0 < k.toNat ∧ t[0]? = some 0 then .error 3
      else if most < valB (t.take k.toNat) then .error 5 else .ok (valB (t.take k.toNat), t.drop k.toNat)
def textR (most : Nat) (l : List UInt8) : Rd (List UInt8) := match numR most l with
  | .error x => .error x
  | .ok (v, t) => takeR v t
theorem takeR_app {b t : List UInt8} : takeR b.length (b ++ t) = .ok (b, t) := by
  unfold takeR
  rw [if_pos (by simp), List.take_left, List.drop_left]
theorem takeR_len {n : Nat} {b t : List UInt8} (h : b.length = n) : takeR n (b ++ t) = .ok (b, t) := by rw [← h]; exact takeR_app
theorem numR_put {n most : Nat} {t : List UInt8} (h : n ≤ most) (h64 : n ≤ 18446744073709551615) : numR most (numB n ++ t) = .ok (n, t) := by
  have h8 := lenB_64 h64
  have e0 : numB n = UInt8.ofNat (lenB n) :: (leB n).reverse := by unfold numB; rfl
  have e1 : (UInt8.ofNat (lenB n)).toNat = ((leB n).reverse).length := by rw [UInt8.toNat_ofNat', List.length_reverse, leB_len]; omega
  rw [e0, List.cons_append]
  simp only [numR]
  rw [e1, List.take_left, List.drop_left, valB_leB]
  have e2 : ((leB n).reverse).length = lenB n := by rw [List.length_reverse, leB_len]
  rw [if_neg (by omega), if_neg (by simp), if_neg, if_neg (by omega)]
  rintro ⟨h1, h2⟩
  have hn : n ≠ 0 := by rintro rfl; rw [e2, lenB_zero] at h1; omega
  obtain ⟨c, t', h3, h4⟩ := leB_last n hn
  rw [h3] at h2
  simp at h2
  exact h4 h2
theorem textR_put {b t : List UInt8} {most : Nat} (h : b.length ≤ most) (h64 : b.length ≤ 18446744073709551615) : textR most (numB b.length ++ (b ++ t)) = .ok (b, t) := by
  unfold textR
  rw [numR_put h h64]
  exact takeR_app
theorem numR_le {most : Nat} {l t : List UInt8} {v : Nat} (h : numR most l = .ok (v, t)) : v ≤ most ∧ v ≤ 18446744073709551615 ∧ t.length ≤ l.length := by
  cases l with
  | nil => cases h
  | cons k l =>
    simp only [numR] at h
    split at h
    · cases h
    · split at h
      · cases h
      · split at h
        · cases h
        · split at h
          · cases h
          · injection h with h
            injection h with h1 h2
            rename_i h8 _ _ hm
            subst h1; subst h2
            refine ⟨by omega, valB_64 (by rw [List.length_take]; omega), by simp; omega⟩
theorem takeR_le {n : Nat} {l b t : List UInt8} (h : takeR n l = .ok (b, t)) : b.length = n ∧ t.length ≤ l.length := by
  unfold takeR at h
  split at h
  · injection h with h; injection h with h1 h2
    subst h1; subst h2
    rw [List.length_take, List.length_drop]; omega
  · cases h
theorem textR_le {most : Nat} {l b t : List UInt8} (h : textR most l = .ok (b, t)) : b.length ≤ most ∧ t.length ≤ l.length := by
  unfold textR at h
  cases hn : numR most l with
  | error x => rw [hn] at h; cases h
  | ok p =>
    obtain ⟨v, t'⟩ := p
    rw [hn] at h
    have h1 := numR_le hn
    have h2 := takeR_le h
    omega
end Go.Proofs.Ytofhohofaedokaa

/- Contracts of field.Eye: Fail, Left, take, Num, Text, Id. -/
namespace Go.Proofs.Ytofhohofaedokaa
open Go.RowKit Go.Shelf
set_option linter.unusedVariables false

def RdAt (w : World) (Lo Bd g : Nat) (A : Option Addr) (bs : List UInt8) : Prop := Sl w Bd 1 A bs.length (bs.map B) ∧ Bd ≤ w.heap.size ∧ (∀ b, A.map Addr.block = some b → Lo ≤ b ∧ b ≠ g)
section
variable {w w' : World} {Lo Bd g : Nat} {l : List UInt8}
theorem RdAt.sl {A : Option Addr} {bs : List UInt8} (h : RdAt w Lo Bd g A bs) : Sl w w.heap.size 1 A bs.length (bs.map B) := h.1.more h.2.1
theorem grownBy_trans {a b c : World} {r : Option Nat} (h : a.grownBy b r) (k : b.grownBy c r) : a.grownBy c r :=
  ⟨k.os.trans h.os, k.tape.trans h.tape, k.output.trans h.output, Nat.le_trans h.size k.size, fun i hi hn => (k.block i (Nat.lt_of_lt_of_le hi h.size) hn).trans (h.block i hi hn)⟩
theorem grownBy_refl (a : World) (r : Option Nat) : a.grownBy a r := ⟨rfl, rfl, rfl, Nat.le_refl _, fun _ _ _ => rfl⟩
theorem grownBy_grow {a b c : World} {r : Option Nat} (h : a.grownBy b r) (k : Grow b c) : a.grownBy c r := grownBy_trans h (grown_of_below k r)
/-- A block that was not there, written. -/
theorem grownBy_new {a b c : World} {r : Option Nat} {q : Nat} (h : a.grownBy b r) (k : b.grownBy c (some q)) (hq : a.heap.size ≤ q) : a.grownBy c r :=
  ⟨k.os.trans h.os, k.tape.trans h.tape, k.output.trans h.output, Nat.le_trans h.size k.size, fun i hi hn => (k.block i (Nat.lt_of_lt_of_le hi h.size) (fun e => by injection e with e; omega)).trans (h.block i hi hn)⟩
end

theorem cut_map {w : World} {Bd n k : Nat} {A : Option Addr} {xs : List Value} (h : Sl w Bd 1 A n xs) (hk : k ≤ n) : Sl w Bd 1 (A.map (fun x => x.add k)) (n - k) (xs.drop k) := by
  refine ⟨by rw [List.length_drop, h.len]; omega, fun hn => ?_⟩
  obtain ⟨b, off, rfl, hb, hc⟩ := h.2 (by omega)
  refine ⟨b, off + k, ?_, hb, fun j u hu => ?_⟩
  · simp only [Option.map_some, Addr.add]
    split <;> simp_all
  · rw [Nat.add_assoc]
    exact hc _ u (by rw [← hu, List.getElem?_drop])
theorem map_block {A : Option Addr} {k : Nat} : (A.map (fun x => x.add k)).map Addr.block = A.map Addr.block := by
  cases A with
  | none => rfl
  | some a => simp only [Option.map_some, Addr.add]; split <;> rfl
theorem Sl.first {w : World} {Bd n k : Nat} {A : Option Addr} {xs : List Value} (h : Sl w Bd 1 A n xs) (hk : k ≤ n) : Sl w Bd 1 A k (xs.take k) := by
  refine ⟨by rw [List.length_take, h.len]; omega, fun hn => ?_⟩
  obtain ⟨b, off, rfl, hb, hc⟩ := h.2 (by omega)
  refine ⟨b, off, rfl, hb, fun j u hu => hc _ u ?_⟩
  rw [List.getElem?_take] at hu
  split at hu
  · exact hu
  · cases hu
end Go.Proofs.Ytofhohofaedokaa

/- Contracts of field.Eye: Num, Text, Id. -/
namespace Go.Proofs.Ytofhohofaedokaa
open Go.RowKit Go.Shelf
set_option linter.unusedVariables false
theorem shl_u64 (v : Nat) (h : v * 256 ≤ 18446744073709551615) : IntKind.u64.wrap ((v : Int) * 2 ^ 8) = ((v * 256 : Nat) : Int) := by
  have e : (v : Int) * 2 ^ 8 = ((v * 256 : Nat) : Int) := by simp
  rw [e, IntKind.wrap_u64]; omega
theorem or_u64 (v c : Nat) (hc : c < 256) (hv : v * 256 + 255 ≤ 18446744073709551615) : bits BinOp.or IntKind.u64 ((v : Int) * 256) (c : Int) = ((v * 256 + c : Nat) : Int) := by
  have h : Op.intBits .or .u64 ((v : Int) * 256) (c : Int) = pure (.int .u64 (IntKind.u64.wrap (((BitVec.ofInt 64 ((v : Int) * 256) ||| BitVec.ofInt 64 (c : Int)).toNat : Nat) : Int))) := rfl
  rw [intBits_or] at h
  injection h with h
  injection h with _ h
  rw [show bits BinOp.or IntKind.u64 ((v : Int) * 256) (c : Int) = IntKind.u64.wrap (((BitVec.ofInt 64 ((v : Int) * 256) ||| BitVec.ofInt 64 (c : Int)).toNat : Nat) : Int) from h]
  have e1 : (BitVec.ofInt 64 ((v : Int) * 256)).toNat = 2 ^ 8 * v := by rw [BitVec.toNat_ofInt]; omega
  have e2 : (BitVec.ofInt 64 (c : Int)).toNat = c := by rw [BitVec.toNat_ofInt]; omega
  rw [BitVec.toNat_or, e1, e2, ← Nat.two_pow_add_eq_or_of_lt (by omega), IntKind.wrap_u64]
  omega
theorem row_id0 : RowT Try.prog 28 32 := ⟨_, Try.underlying28, by kernel_rfl, by kernel_rfl⟩
theorem run_arr32 (a : Option Addr) (w : World) : (Instr.arrayAt 28 (.slice a 32 32)).run Try.prog w = .ok (.pointer a) w := run_arrayAt w _ _ 32 a 32 32 Try.underlying28 (Nat.le_refl _)
end Go.Proofs.Ytofhohofaedokaa

/- What the document's Take hands back: its values. No program's walk. -/
namespace Go.Proofs.Ytofhohofaedokaa
open Go.RowKit Go.Shelf
set_option linter.unusedVariables false

theorem splice_length {L cs : List Value} {off n : Nat} (h : off + cs.length ≤ L.length) (hn : L.length = n) : (splice L off cs).length = n := by
  unfold splice; simp only [List.length_append, List.length_take, List.length_drop]; omega
theorem Sl.back {w w' : World} {Bd sz n : Nat} {A : Option Addr} {xs : List Value} (h : Sl w' Bd sz A n xs) (hb : Below Bd w w') : Sl w Bd sz A n xs := h.keep fun p hp => (hb.cell hp).symm
def SzG (w : World) (n : Nat) : Prop := n ≤ w.heap.size
theorem SzG.grow {w w' : World} {n : Nat} (h : SzG w n) (k : Grow w w') : SzG w' n := Nat.le_trans h k.size
def nilS : Value := .slice none 0 0
def fieldV (k n : Int) (b : Value) (d : List UInt8) : List Value := [.int .i64 k, .int .u64 n, b] ++ d.map B
def gotV (f : List Value) (e : Int) (left : Value) : List Value := f ++ [.int .i64 e, left]
def noF : List Value := fieldV 0 0 nilS zeroD
theorem fieldV_cl {k n : Int} {b : Value} {d : List UInt8} (hb : b.oneCell' = true) (hd : d.length = 32) : Cl 35 (fieldV k n b d) := by
  refine ⟨by simp [fieldV, hd], fun u hu => ?_⟩
  simp only [fieldV, List.mem_append, List.mem_cons, List.not_mem_nil, or_false, List.mem_map] at hu
  rcases hu with (rfl | rfl | rfl) | ⟨x, _, rfl⟩
  · rfl
  · rfl
  · exact hb
  · rfl
theorem gotV_cl {f : List Value} {e : Int} {l : Value} (hf : Cl 35 f) (hl : l.oneCell' = true) : Cl 37 (gotV f e l) := by
  refine ⟨by simp [gotV, hf.1], fun u hu => ?_⟩
  simp only [gotV, List.mem_append, List.mem_cons, List.not_mem_nil, or_false] at hu
  rcases hu with h | rfl | rfl
  · exact hf.2 u h
  · rfl
  · exact hl
theorem noF_cl : Cl 35 noF := fieldV_cl rfl (by simp [zeroD])
theorem fieldV_at {k n : Int} {b : Value} {d : List UInt8} : (fieldV k n b d)[0]? = some (.int .i64 k) ∧ (fieldV k n b d)[1]? = some (.int .u64 n) ∧ (fieldV k n b d)[2]? = some b := ⟨rfl, rfl, rfl⟩
theorem gotV_at {f : List Value} {e : Int} {l : Value} (hf : Cl 35 f) : (gotV f e l)[35]? = some (.int .i64 e) ∧ (gotV f e l)[36]? = some l ∧ ∀ (j : Nat) (v : Value), f[j]? = some v → (gotV f e l)[j]? = some v := by
  refine ⟨?_, ?_, fun j v h => ?_⟩
  · unfold gotV; rw [List.getElem?_append_right (by rw [hf.1]; omega), hf.1]; rfl
  · unfold gotV; rw [List.getElem?_append_right (by rw [hf.1]; omega), hf.1]; rfl
  · unfold gotV; rw [List.getElem?_append_left (List.getElem?_eq_some_iff.1 h).1]; exact h
theorem len_fld : noF.length = 35 := noF_cl.1
theorem len_got : (gotV noF 0 nilS).length = 37 := (gotV_cl noF_cl rfl).1
/-- What Take hands back of r: fv: its field. -/
def GotR {α : Type} (r : Rd α) (fv : α → World → List Value → Prop) (Bd : Nat) (w w' : World) (e : Ending) : Prop := Grow w w' ∧ match r with
  | .error x => e = .returned (.agg (gotV noF (x : Int) nilS).toArray)
  | .ok (v, t) => ∃ f A c, e = .returned (.agg (gotV f 0 (.slice A t.length c)).toArray) ∧ Cl 35 f ∧ fv v w' f ∧ Sl w' Bd 1 A t.length (t.map B) ∧ t.length ≤ c
theorem GotR.err {Bd : Nat} {α : Type} {r : Rd α} {fv : α → World → List Value → Prop} {w w' : World} {e : Ending} {x : Nat} (hr : r = .error x) (he : e = .returned (.agg (gotV noF (x : Int) nilS).toArray)) (hg : Grow w w') : GotR r fv Bd w w' e := by
  subst hr; exact ⟨hg, he⟩
theorem GotR.ok {Bd : Nat} {α : Type} {r : Rd α} {fv : α → World → List Value → Prop} {w w' : World} {e : Ending} {v : α} {t : List UInt8} {f : List Value} {A : Option Addr} {c : Nat} (hr : r = .ok (v, t)) (he : e = .returned (.agg (gotV f 0 (.slice A t.length c)).toArray)) (hf : Cl 35 f) (hv : fv v w' f)
    (hs : Sl w' Bd 1 A t.length (t.map B)) (hc : t.length ≤ c) (hg : Grow w w') : GotR r fv Bd w w' e := by
  subst hr; exact ⟨hg, f, A, c, he, hf, hv, hs, hc⟩
theorem GotR.get {Bd : Nat} {α : Type} {r : Rd α} {fv : α → World → List Value → Prop} {w w' : World} {e : Ending} (h : GotR r fv Bd w w' e) : Grow w w' ∧ ((∃ x, r = .error x ∧ e = .returned (.agg (gotV noF (x : Int) nilS).toArray)) ∨
    ∃ v t f A c, r = .ok (v, t) ∧ e = .returned (.agg (gotV f 0 (.slice A t.length c)).toArray) ∧ Cl 35 f ∧ fv v w' f ∧ Sl w' Bd 1 A t.length (t.map B) ∧ t.length ≤ c) := by
  obtain ⟨h1, h2⟩ := h
  refine ⟨h1, ?_⟩
  cases r with
  | error x => exact .inl ⟨x, rfl, h2⟩
  | ok p => obtain ⟨f, A, c, h3⟩ := h2; exact .inr ⟨p.1, p.2, f, A, c, rfl, h3⟩
def numF (v : Nat) (w : World) (f : List Value) : Prop := f = fieldV 0 (v : Int) nilS zeroD
def idF (d : List UInt8) (w : World) (f : List Value) : Prop := f = fieldV 2 0 nilS d
def textF (Bd : Nat) (b : List UInt8) (w : World) (f : List Value) : Prop := ∃ A c, f = fieldV 1 0 (.slice A b.length c) zeroD ∧ Sl w Bd 1 A b.length (b.map B) ∧ b.length ≤ c
theorem valB_cons {c : UInt8} {l : List UInt8} {k : Nat} {x : UInt8} (h : l[k]? = some x) : valB (l.take (k + 1)) = valB (l.take k) * 256 + x.toNat := by
  rw [take_snoc h, valB_snoc]
end Go.Proofs.Ytofhohofaedokaa

/- Contracts: the same digests, the same certificates. Printed by mkcertb.py. -/
namespace Go.Proofs.Ytofhohofaedokaa
open Go.RowKit Go.Shelf
set_option linter.unusedVariables false

theorem cert_cl {v : Value} (hv : v.oneCell' = true) {x : Cer} (h : x.ok) : Cl 137 (certV v x) := ⟨certV_len h, cert_one v hv x⟩
theorem entV_inj {a b : Ent} (ha : a.ok) (hb : b.ok) (h : entV a = entV b) : a = b := by
  obtain ⟨k, s, t, m, y, p⟩ := a; obtain ⟨k2, s2, t2, m2, y2, p2⟩ := b
  simp only [entV, List.cons.injEq, Value.int.injEq, true_and] at h
  obtain ⟨h1, h2, h3⟩ := h
  have := List.append_inj h3 (by rw [List.length_map, List.length_map, show t.length = 32 from ha.2.2.1, show t2.length = 32 from hb.2.2.1])
  obtain ⟨h4, h5⟩ := this
  have h6 : t = t2 := map_B_injH h4
  simp only [List.cons.injEq, Value.int.injEq, true_and, and_true] at h5
  obtain ⟨h7, h8, h9⟩ := h5
  subst h1 h2 h6 h7 h8 h9; rfl
theorem ent_eq {a b : Ent} (ha : a.ok) (hb : b.ok) : ∃ r : Bool, (r = true ↔ a = b) ∧ ∀ w, (Op.equalIn 10000 31 (.agg (entV a).toArray) (.agg (entV b).toArray)).run Try.prog w = .ok r w := by
  obtain ⟨n4, hn4⟩ := types_3
  obtain ⟨r, hr, hq⟩ := eql_deep key_entry (m := 3) (by omega) (by kernel_rfl) (by kernel_rfl) (by kernel_rfl) (entV a) (entV b) (by rw [entV_length ha, cells_entry]) (by rw [entV_length hb, cells_entry]) (by rw [hn4]; exact lits_ent (n4 + 1) _ ha) (by rw [hn4]; exact lits_ent (n4 + 1) _ hb)
  exact ⟨r, hr.trans ⟨fun h => entV_inj ha hb h, fun h => by rw [h]⟩, hq⟩
theorem hdr_eq {a b : Hdr} (ha : a.ok) (hb : b.ok) : ∃ r : Bool, (r = true ↔ a = b) ∧ ∀ w, (Op.equalIn 10000 34 (.agg (hdrV a).toArray) (.agg (hdrV b).toArray)).run Try.prog w = .ok r w := by
  obtain ⟨n4, hn4⟩ := types_3
  obtain ⟨r, hr, hq⟩ := eql_deep key_header (m := 3) (by omega) (by kernel_rfl) (by kernel_rfl) (by kernel_rfl) (hdrV a) (hdrV b) (by rw [hdrV_length ha, cells_header]) (by rw [hdrV_length hb, cells_header]) (by rw [hn4]; exact lits_hdr (n4 + 1) _ ha) (by rw [hn4]; exact lits_hdr (n4 + 1) _ hb)
  exact ⟨r, hr.trans ⟨fun h => hdrV_inj ha hb h, fun h => by rw [h]⟩, hq⟩
theorem cer_eq {x y : Cer} {re rp rh rt : Bool} (h1 : re = true ↔ x.e = y.e) (h2 : decide (x.path = y.path) = rp) (h3 : rh = true ↔ x.h = y.h) (h4 : (x.tag == y.tag) = rt) : decide (x = y) = (re && rp && rh && rt) := by
  rw [Bool.eq_iff_iff, decide_eq_true_iff]
  simp only [Bool.and_eq_true, h1, h3, ← h2, ← h4, decide_eq_true_iff, beq_iff_eq]
  cases x; cases y; simp [and_assoc]

set_option maxRecDepth 100000 in
set_option maxHeartbeats 1000000 in
theorem rsame5_any {res : Bool} {A A2 : Option Addr} {n c n2 c2 : Nat} {ds es : List (List UInt8)} (hres : decide (ds = es) = res) (w : World) (hn : n ≤ 1000000) (h1 : Ids w A n c ds) (h2 : Ids w A2 n2 c2 es) :
    Calls Try.prog 41 #[.slice A n c, .slice A2 n2 c2] w fun e w' => e = .returned (.bool res) ∧ Below w.heap.size w w' := by
  have H1 := Lib.hid h1; have H2 := Lib.hid h2
  have HL1 := Lib.hid h1.2.1; have HL2 := Lib.hid h2.2.1
  have HRES := Lib.hid hres
  clear h1 h2 hres
  by_cases hl : n = n2
  · subst hl
    go_enter Try.func41, Try.ntmps41
    go_wp2_with fail
    go_loopw [5] (fun i wr => ∃ k : Nat, k ≤ n ∧ i = .int .i64 k ∧ Hid (ds.take k = es.take k) ∧ Hid (Below w.heap.size w wr)) (fun i _ => n - (intOf i).toNat)
    case atStart => exact ⟨0, by omega, rfl, Lib.hid rfl, Lib.hid (Below.refl _ _)⟩
    case round =>
      obtain ⟨k, hk, rfl, hup, hbw⟩ := hrel
      by_cases hlt : k < n
      · have HB := hbw
        have H1A := Lib.hid (H1.out.up HB.out)
        have H2A := Lib.hid (H2.out.up HB.out)
        try go_wp2_with fail
        repeat' (first | (with_reducible refine wp_plan (id := 6) Grow [0,0,0,2,0,0,0,2,0] (.get 0 (.get 1 (.get 2 (.get 3 (.get 4 (.get 5 (.get 6 (.get 7 (.get 8 .done))))))))) (by kernel_rfl) (by kernel_rfl) Grow.refl Grow.trans ?_) | go_values | go_skip | go_guarded | go_step | go_upon | go_back)
        intro w_ hd_
        have hb_ := hd_.grow
        have HB_ := Lib.hid (HB.out.grow' hb_)
        clear HB
        have HB := HB_
        clear HB_
        have H1A_ := Lib.hid (H1A.out.grow hb_)
        clear H1A
        have H1A := H1A_
        clear H1A_
        have H2A_ := Lib.hid (H2A.out.grow hb_)
        clear H2A
        have H2A := H2A_
        clear H2A_
        clear hb_ hd_
        obtain ⟨b1, o1, d, rfl, hd, hd32, hb1, hc1⟩ := H1A.out.key hlt
        obtain ⟨b2, o2, d2, rfl, hd2, he32, hb2, hc2⟩ := H2A.out.key hlt
        obtain ⟨vs, hvs⟩ : ∃ vs, vs = d.map B := ⟨_, rfl⟩
        obtain ⟨us, hus⟩ : ∃ us, us = d2.map B := ⟨_, rfl⟩
        obtain ⟨q, hq⟩ : ∃ q, (d == d2) = q := ⟨_, rfl⟩
        have HV := Lib.hid (show Dig vs d from ⟨hvs, hd32⟩)
        have HU := Lib.hid (show Dig us d2 from ⟨hus, he32⟩)
        rw [← hvs] at hc1
        rw [← hus] at hc2
        have HC1 := Lib.hid hc1; have HC2 := Lib.hid hc2
        have HB1 := Lib.hid hb1; have HB2 := Lib.hid hb2
        have HD1 := Lib.hid hd; have HD2 := Lib.hid hd2
        have hne := HV.out.neq_b HU.out hq
        have HQ := Lib.hid hq
        clear hvs hus hc1 hc2 hb1 hb2 hd hd2 hd32 he32 hq
        repeat (first | (refine pl_calm rfl rfl (by first | exact wanted_none rfl | (go_simp; done) | rfl) (fun w_ => by first | (go_simp; rfl) | (go_simp; done) | rfl) (fun K hK => ?_); go_simp; refine hK _ _ ?_; clear hK K) | (refine pl_skip rfl (by first | (go_simp; done) | rfl) (fun K hK => ?_); go_simp; refine hK _ _ ?_; clear hK K) | (refine pl_skipa rfl (by first | (go_simp; done) | rfl) (fun K hK => ?_); go_simp; refine hK _ _ ?_; clear hK K))
        refine pl_loadm rfl (by decide) (by exact wanted_none rfl) rfl row_id HC1.out HB1.out (by first | rfl | (go_simp; done) | rfl) HV.out.len (fun K hK => ?_)
        go_simp
        refine hK _ _ ?_
        clear hK K
        repeat (first | (refine pl_calm rfl rfl (by first | exact wanted_none rfl | (go_simp; done) | rfl) (fun w_ => by first | (go_simp; rfl) | (go_simp; done) | rfl) (fun K hK => ?_); go_simp; refine hK _ _ ?_; clear hK K) | (refine pl_skip rfl (by first | (go_simp; done) | rfl) (fun K hK => ?_); go_simp; refine hK _ _ ?_; clear hK K) | (refine pl_skipa rfl (by first | (go_simp; done) | rfl) (fun K hK => ?_); go_simp; refine hK _ _ ?_; clear hK K))
        refine pl_loadm rfl (by decide) (by exact wanted_none rfl) rfl row_id HC2.out HB2.out (by first | rfl | (go_simp; done) | rfl) HU.out.len (fun K hK => ?_)
        go_simp
        refine hK _ _ ?_
        clear hK K
        repeat (first | (refine pl_calm rfl rfl (by first | exact wanted_none rfl | (go_simp; done) | rfl) (fun w_ => by first | (go_simp; rfl) | (go_simp; done) | rfl) (fun K hK => ?_); go_simp; refine hK _ _ ?_; clear hK K) | (refine pl_skip rfl (by first | (go_simp; done) | rfl) (fun K hK => ?_); go_simp; refine hK _ _ ?_; clear hK K) | (refine pl_skipa rfl (by first | (go_simp; done) | rfl) (fun K hK => ?_); go_simp; refine hK _ _ ?_; clear hK K))
        refine pl_done ?_
        cases q with
        | true =>
          have HE := Lib.hid (show d = d2 from by simpa using HQ.out)
          go_wp2_with fail
          go_roundw
          case rel => exact ⟨k + 1, by omega, by go_num, Lib.hid (by rw [List.take_add_one, List.take_add_one, HD1.out, HD2.out, hup.out, HE.out]), HB⟩
          case measure => simp [intOf]; omega
        | false =>
          have HF := Lib.hid (show res = false by
            rw [← HRES.out, decide_eq_false_iff_not]
            intro h
            have h1 := HD1.out; have h2 := HD2.out
            rw [h, h2] at h1
            have h3 := Option.some.inj h1
            have h4 := HQ.out
            rw [h3] at h4; simp at h4)
          go_wp2_with fail
          go_ret
          exact ⟨by rw [HF.out]; rfl, HB.out⟩
      · have HF := Lib.hid (show res = true by
            rw [← HRES.out, decide_eq_true_iff]
            have h := hup.out
            rw [List.take_of_length_le (by rw [HL1.out]; omega), List.take_of_length_le (by rw [HL2.out]; omega)] at h
            exact h)
        go_wp2_with fail
        go_ret
        exact ⟨by rw [HF.out]; rfl, hbw.out⟩
  · have g1 : ((n : Int) == (n2 : Int)) = false := by simp; omega
    have g2 : ((n : Int) != (n2 : Int)) = true := by simp; omega
    have g3 : (n == n2) = false := by simp; omega
    have g4 : (n != n2) = true := by simp; omega
    have g5 : decide (n = n2) = false := by simp; omega
    have HF := Lib.hid (show res = false by rw [← HRES.out, decide_eq_false_iff_not]; intro h; have h1 := HL1.out; have h2 := HL2.out; rw [h, h2] at h1; exact hl h1.symm)
    clear hl
    go_enter Try.func41, Try.ntmps41
    go_wp2_with fail
    go_ret
    exact ⟨by rw [HF.out]; rfl, Below.refl _ _⟩

set_option maxRecDepth 100000 in
set_option maxHeartbeats 2000000 in
theorem rcsame_any {res : Bool} {A A2 : Option Addr} {n c n2 c2 : Nat} {x y : Cer} (hres : decide (x = y) = res) (w : World) (hx : x.ok) (hy : y.ok) (hn : n ≤ 1000000) (h1 : Ids w A n c x.path) (h2 : Ids w A2 n2 c2 y.path) :
    Calls Try.prog 25 #[.agg (certV (.slice A n c) x).toArray, .agg (certV (.slice A2 n2 c2) y).toArray] w fun e w' => e = .returned (.bool res) ∧ Below w.heap.size w w' := by
  have H1 := Lib.hid h1; have H2 := Lib.hid h2
  have HXO := Lib.hid hx; have HYO := Lib.hid hy
  obtain ⟨re, he1, he2⟩ := ent_eq hx.1 hy.1
  obtain ⟨rh, hh1, hh2⟩ := hdr_eq hx.2.2.1 hy.2.2.1
  obtain ⟨rp, hp⟩ : ∃ q, decide (x.path = y.path) = q := ⟨_, rfl⟩
  obtain ⟨rt, hq⟩ : ∃ q, (x.tag == y.tag) = q := ⟨_, rfl⟩
  have ht := (dig_map hx.2.2.2).eql_b (dig_map hy.2.2.2) hq
  have HRES := Lib.hid (show res = (re && rp && rh && rt) by rw [← hres]; exact cer_eq he1 hp hh1 hq)
  have HE2 := Lib.hid (fun (_ : Unit) => he2); have HH2 := Lib.hid (fun (_ : Unit) => hh2); have HT2 := Lib.hid (fun (_ : Unit) => ht)
  have HP := Lib.hid (fun w h1 h2 => rsame5_any (A := A) (n := n) (c := c) (A2 := A2) (n2 := n2) (c2 := c2) hp w hn h1 h2)
  clear he1 hh1 hp hq hres h1 h2 hn ht he2 hh2
  have HD := Lib.hid (cert_cl (v := .slice A n c) rfl hx); have HD2 := Lib.hid (cert_cl (v := .slice A2 n2 c2) rfl hy)
  have LE := Lib.hid (entV_length hx.1); have LE2 := Lib.hid (entV_length hy.1)
  have LH := Lib.hid (hdrV_length hx.2.2.1); have LH2 := Lib.hid (hdrV_length hy.2.2.1)
  have LT := Lib.hid (show (x.tag.map B).length = 32 by rw [List.length_map]; exact hx.2.2.2); have LT2 := Lib.hid (show (y.tag.map B).length = 32 by rw [List.length_map]; exact hy.2.2.2)
  have HV := Lib.hid (cert_v (v := .slice A n c) hx); have HV2 := Lib.hid (cert_v (v := .slice A2 n2 c2) hy)
  have ME := Lib.hid (fun w g t hb => midCE (c := x) (v := .slice A n c) (w := w) (g := g) (t := t) hb); have ME2 := Lib.hid (fun w g t hb => midCE (c := y) (v := .slice A2 n2 c2) (w := w) (g := g) (t := t) hb)
  have MH := Lib.hid (fun w g t hb => midCH (c := x) (v := .slice A n c) (w := w) (g := g) (t := t) hx hb); have MH2 := Lib.hid (fun w g t hb => midCH (c := y) (v := .slice A2 n2 c2) (w := w) (g := g) (t := t) hy hb)
  have MT := Lib.hid (fun w g t hb => midCT (c := x) (v := .slice A n c) (w := w) (g := g) (t := t) hx hb); have MT2 := Lib.hid (fun w g t hb => midCT (c := y) (v := .slice A2 n2 c2) (w := w) (g := g) (t := t) hy hb)
  clear hx hy
  obtain ⟨xv, hxv⟩ : ∃ v, v = certV (.slice A n c) x := ⟨_, rfl⟩
  obtain ⟨yv, hyv⟩ : ∃ v, v = certV (.slice A2 n2 c2) y := ⟨_, rfl⟩
  rw [← hxv] at HD HV ME MH MT ⊢
  rw [← hyv] at HD2 HV2 ME2 MH2 MT2 ⊢
  obtain ⟨ev, hev⟩ : ∃ v, v = entV x.e := ⟨_, rfl⟩
  obtain ⟨eu, heu⟩ : ∃ v, v = entV y.e := ⟨_, rfl⟩
  obtain ⟨hv, hhv⟩ : ∃ v, v = hdrV x.h := ⟨_, rfl⟩
  obtain ⟨hu, hhu⟩ : ∃ v, v = hdrV y.h := ⟨_, rfl⟩
  obtain ⟨tv, htv⟩ : ∃ v, v = x.tag.map B := ⟨_, rfl⟩
  obtain ⟨tu, htu⟩ : ∃ v, v = y.tag.map B := ⟨_, rfl⟩
  rw [← hev] at LE ME
  rw [← heu] at LE2 ME2
  rw [← hhv] at LH MH
  rw [← hhu] at LH2 MH2
  rw [← htv] at LT MT
  rw [← htu] at LT2 MT2
  rw [← hev, ← heu] at HE2
  rw [← hhv, ← hhu] at HH2
  rw [← htv, ← htu] at HT2
  have qe := HE2.out (); have qh := HH2.out (); have qt := HT2.out ()
  clear hxv hyv hev heu hhv hhu htv htu HE2 HH2 HT2 HXO HYO
  have HB := Lib.hid (Below.refl w.heap.size w)
  obtain ⟨g0, hg0⟩ : ∃ g, g = w.heap.size := ⟨_, rfl⟩
  go_enter Try.func25, Try.ntmps25
  go_wp2_with (first | (with_reducible refine wpl_box (o := ⟨some 2, _, _, _, _, _⟩) rfl rfl rfl ?_))
  intro w2_ hb2_ hb_ hsz2_
  have HX_ := Lib.hid (at_mk hb2_ HD.out.len)
  clear hb2_ hsz2_
  have HB_ := Lib.hid (HB.out.grow' hb_)
  clear HB
  have HB := HB_
  clear HB_
  have H1_ := Lib.hid (H1.out.grow hb_)
  clear H1
  have H1 := H1_
  clear H1_
  have H2_ := Lib.hid (H2.out.grow hb_)
  clear H2
  have H2 := H2_
  clear H2_
  have HX := HX_
  clear hb_ HX_
  try clear w_
  rename World => w_
  go_wp2_with (first | (with_reducible refine wpl_box (o := ⟨some 3, _, _, _, _, _⟩) rfl rfl rfl ?_))
  intro w2_ hb2_ hb_ hsz2_
  have HX_ := Lib.hid (at_mk hb2_ HD2.out.len)
  clear hb2_ hsz2_
  have HG_ := Lib.hid HB.out.size
  have HB_ := Lib.hid (HB.out.grow' hb_)
  clear HB
  have HB := HB_
  clear HB_
  have H1_ := Lib.hid (H1.out.grow hb_)
  clear H1
  have H1 := H1_
  clear H1_
  have H2_ := Lib.hid (H2.out.grow hb_)
  clear H2
  have H2 := H2_
  clear H2_
  have HX_ := Lib.hid (HX.out.grow hb_)
  clear HX
  have HX := HX_
  clear HX_
  generalize hg_ : w_.heap.size = g1 at HX_ HG_ ⊢
  clear hg_
  have HY_g := HG_
  clear HG_
  have HY := HX_
  clear hb_ HX_
  try clear w_
  rename World => w_
  cases re with
  | false =>
    have HRES_ := Lib.hid (show res = false by rw [HRES.out]; simp)
    have FME := Lib.hid (ME.out _ _ _ HX.out.blk)
    have FMH := Lib.hid (MH.out _ _ _ HX.out.blk)
    have FMT := Lib.hid (MT.out _ _ _ HX.out.blk)
    have FME2 := Lib.hid (ME2.out _ _ _ HY.out.blk)
    have FMH2 := Lib.hid (MH2.out _ _ _ HY.out.blk)
    have FMT2 := Lib.hid (MT2.out _ _ _ HY.out.blk)
    have c1 := HX.out.blk.at_ HV.out; have c2 := HY.out.blk.at_ HV2.out
    go_wp2_with (first | (with_reducible refine wpl_loadm (o := ⟨some 6, _, _, _, _, _⟩) rfl rfl row_entry FME.out rfl LE.out ?_) | (with_reducible refine wpl_loadmw (o := ⟨some 6, _, _, _, _, _⟩) (by first | rfl | (go_simp; done) | fail) rfl row_entry FME.out rfl LE.out ?_) | (with_reducible refine wpl_loadm (o := ⟨some 8, _, _, _, _, _⟩) rfl rfl row_entry FME2.out rfl LE2.out ?_) | (with_reducible refine wpl_loadmw (o := ⟨some 8, _, _, _, _, _⟩) (by first | rfl | (go_simp; done) | fail) rfl row_entry FME2.out rfl LE2.out ?_) | (with_reducible refine wpl_loadm (o := ⟨some 12, _, _, _, _, _⟩) rfl rfl row_header FMH.out rfl LH.out ?_) | (with_reducible refine wpl_loadmw (o := ⟨some 12, _, _, _, _, _⟩) (by first | rfl | (go_simp; done) | fail) rfl row_header FMH.out rfl LH.out ?_) | (with_reducible refine wpl_loadm (o := ⟨some 14, _, _, _, _, _⟩) rfl rfl row_header FMH2.out rfl LH2.out ?_) | (with_reducible refine wpl_loadmw (o := ⟨some 14, _, _, _, _, _⟩) (by first | rfl | (go_simp; done) | fail) rfl row_header FMH2.out rfl LH2.out ?_) | (with_reducible refine wpl_loadm (o := ⟨some 19, _, _, _, _, _⟩) rfl rfl row_aid FMT.out rfl LT.out ?_) | (with_reducible refine wpl_loadmw (o := ⟨some 19, _, _, _, _, _⟩) (by first | rfl | (go_simp; done) | fail) rfl row_aid FMT.out rfl LT.out ?_) | (with_reducible refine wpl_loadm (o := ⟨some 21, _, _, _, _, _⟩) rfl rfl row_aid FMT2.out rfl LT2.out ?_) | (with_reducible refine wpl_loadmw (o := ⟨some 21, _, _, _, _, _⟩) (by first | rfl | (go_simp; done) | fail) rfl row_aid FMT2.out rfl LT2.out ?_))
    go_ret
    exact ⟨by rw [HRES_.out]; rfl, HB.out⟩
  | true =>
    cases rh with
    | false =>
      have HRES_ := Lib.hid (show res = false by rw [HRES.out]; simp)
      have FME := Lib.hid (ME.out _ _ _ HX.out.blk)
      have FMH := Lib.hid (MH.out _ _ _ HX.out.blk)
      have FMT := Lib.hid (MT.out _ _ _ HX.out.blk)
      have FME2 := Lib.hid (ME2.out _ _ _ HY.out.blk)
      have FMH2 := Lib.hid (MH2.out _ _ _ HY.out.blk)
      have FMT2 := Lib.hid (MT2.out _ _ _ HY.out.blk)
      have c1 := HX.out.blk.at_ HV.out; have c2 := HY.out.blk.at_ HV2.out
      go_wp2_with (first | (with_reducible refine wpl_loadm (o := ⟨some 6, _, _, _, _, _⟩) rfl rfl row_entry FME.out rfl LE.out ?_) | (with_reducible refine wpl_loadmw (o := ⟨some 6, _, _, _, _, _⟩) (by first | rfl | (go_simp; done) | fail) rfl row_entry FME.out rfl LE.out ?_) | (with_reducible refine wpl_loadm (o := ⟨some 8, _, _, _, _, _⟩) rfl rfl row_entry FME2.out rfl LE2.out ?_) | (with_reducible refine wpl_loadmw (o := ⟨some 8, _, _, _, _, _⟩) (by first | rfl | (go_simp; done) | fail) rfl row_entry FME2.out rfl LE2.out ?_) | (with_reducible refine wpl_loadm (o := ⟨some 12, _, _, _, _, _⟩) rfl rfl row_header FMH.out rfl LH.out ?_) | (with_reducible refine wpl_loadmw (o := ⟨some 12, _, _, _, _, _⟩) (by first | rfl | (go_simp; done) | fail) rfl row_header FMH.out rfl LH.out ?_) | (with_reducible refine wpl_loadm (o := ⟨some 14, _, _, _, _, _⟩) rfl rfl row_header FMH2.out rfl LH2.out ?_) | (with_reducible refine wpl_loadmw (o := ⟨some 14, _, _, _, _, _⟩) (by first | rfl | (go_simp; done) | fail) rfl row_header FMH2.out rfl LH2.out ?_) | (with_reducible refine wpl_loadm (o := ⟨some 19, _, _, _, _, _⟩) rfl rfl row_aid FMT.out rfl LT.out ?_) | (with_reducible refine wpl_loadmw (o := ⟨some 19, _, _, _, _, _⟩) (by first | rfl | (go_simp; done) | fail) rfl row_aid FMT.out rfl LT.out ?_) | (with_reducible refine wpl_loadm (o := ⟨some 21, _, _, _, _, _⟩) rfl rfl row_aid FMT2.out rfl LT2.out ?_) | (with_reducible refine wpl_loadmw (o := ⟨some 21, _, _, _, _, _⟩) (by first | rfl | (go_simp; done) | fail) rfl row_aid FMT2.out rfl LT2.out ?_))
      go_ret
      exact ⟨by rw [HRES_.out]; rfl, HB.out⟩
    | true =>
      cases rt with
      | false =>
        have HRES_ := Lib.hid (show res = false by rw [HRES.out]; simp)
        have FME := Lib.hid (ME.out _ _ _ HX.out.blk)
        have FMH := Lib.hid (MH.out _ _ _ HX.out.blk)
        have FMT := Lib.hid (MT.out _ _ _ HX.out.blk)
        have FME2 := Lib.hid (ME2.out _ _ _ HY.out.blk)
        have FMH2 := Lib.hid (MH2.out _ _ _ HY.out.blk)
        have FMT2 := Lib.hid (MT2.out _ _ _ HY.out.blk)
        have c1 := HX.out.blk.at_ HV.out; have c2 := HY.out.blk.at_ HV2.out
        go_wp2_with (first | (with_reducible refine wpl_loadm (o := ⟨some 6, _, _, _, _, _⟩) rfl rfl row_entry FME.out rfl LE.out ?_) | (with_reducible refine wpl_loadmw (o := ⟨some 6, _, _, _, _, _⟩) (by first | rfl | (go_simp; done) | fail) rfl row_entry FME.out rfl LE.out ?_) | (with_reducible refine wpl_loadm (o := ⟨some 8, _, _, _, _, _⟩) rfl rfl row_entry FME2.out rfl LE2.out ?_) | (with_reducible refine wpl_loadmw (o := ⟨some 8, _, _, _, _, _⟩) (by first | rfl | (go_simp; done) | fail) rfl row_entry FME2.out rfl LE2.out ?_) | (with_reducible refine wpl_loadm (o := ⟨some 12, _, _, _, _, _⟩) rfl rfl row_header FMH.out rfl LH.out ?_) | (with_reducible refine wpl_loadmw (o := ⟨some 12, _, _, _, _, _⟩) (by first | rfl | (go_simp; done) | fail) rfl row_header FMH.out rfl LH.out ?_) | (with_reducible refine wpl_loadm (o := ⟨some 14, _, _, _, _, _⟩) rfl rfl row_header FMH2.out rfl LH2.out ?_) | (with_reducible refine wpl_loadmw (o := ⟨some 14, _, _, _, _, _⟩) (by first | rfl | (go_simp; done) | fail) rfl row_header FMH2.out rfl LH2.out ?_) | (with_reducible refine wpl_loadm (o := ⟨some 19, _, _, _, _, _⟩) rfl rfl row_aid FMT.out rfl LT.out ?_) | (with_reducible refine wpl_loadmw (o := ⟨some 19, _, _, _, _, _⟩) (by first | rfl | (go_simp; done) | fail) rfl row_aid FMT.out rfl LT.out ?_) | (with_reducible refine wpl_loadm (o := ⟨some 21, _, _, _, _, _⟩) rfl rfl row_aid FMT2.out rfl LT2.out ?_) | (with_reducible refine wpl_loadmw (o := ⟨some 21, _, _, _, _, _⟩) (by first | rfl | (go_simp; done) | fail) rfl row_aid FMT2.out rfl LT2.out ?_))
        go_ret
        exact ⟨by rw [HRES_.out]; rfl, HB.out⟩
      | true =>
        cases rp with
        | false =>
          have HRES_ := Lib.hid (show res = false by rw [HRES.out]; simp)
          have FME := Lib.hid (ME.out _ _ _ HX.out.blk)
          have FMH := Lib.hid (MH.out _ _ _ HX.out.blk)
          have FMT := Lib.hid (MT.out _ _ _ HX.out.blk)
          have FME2 := Lib.hid (ME2.out _ _ _ HY.out.blk)
          have FMH2 := Lib.hid (MH2.out _ _ _ HY.out.blk)
          have FMT2 := Lib.hid (MT2.out _ _ _ HY.out.blk)
          have c1 := HX.out.blk.at_ HV.out; have c2 := HY.out.blk.at_ HV2.out
          go_wp2_with (first | (with_reducible refine wpl_loadm (o := ⟨some 6, _, _, _, _, _⟩) rfl rfl row_entry FME.out rfl LE.out ?_) | (with_reducible refine wpl_loadmw (o := ⟨some 6, _, _, _, _, _⟩) (by first | rfl | (go_simp; done) | fail) rfl row_entry FME.out rfl LE.out ?_) | (with_reducible refine wpl_loadm (o := ⟨some 8, _, _, _, _, _⟩) rfl rfl row_entry FME2.out rfl LE2.out ?_) | (with_reducible refine wpl_loadmw (o := ⟨some 8, _, _, _, _, _⟩) (by first | rfl | (go_simp; done) | fail) rfl row_entry FME2.out rfl LE2.out ?_) | (with_reducible refine wpl_loadm (o := ⟨some 12, _, _, _, _, _⟩) rfl rfl row_header FMH.out rfl LH.out ?_) | (with_reducible refine wpl_loadmw (o := ⟨some 12, _, _, _, _, _⟩) (by first | rfl | (go_simp; done) | fail) rfl row_header FMH.out rfl LH.out ?_) | (with_reducible refine wpl_loadm (o := ⟨some 14, _, _, _, _, _⟩) rfl rfl row_header FMH2.out rfl LH2.out ?_) | (with_reducible refine wpl_loadmw (o := ⟨some 14, _, _, _, _, _⟩) (by first | rfl | (go_simp; done) | fail) rfl row_header FMH2.out rfl LH2.out ?_) | (with_reducible refine wpl_loadm (o := ⟨some 19, _, _, _, _, _⟩) rfl rfl row_aid FMT.out rfl LT.out ?_) | (with_reducible refine wpl_loadmw (o := ⟨some 19, _, _, _, _, _⟩) (by first | rfl | (go_simp; done) | fail) rfl row_aid FMT.out rfl LT.out ?_) | (with_reducible refine wpl_loadm (o := ⟨some 21, _, _, _, _, _⟩) rfl rfl row_aid FMT2.out rfl LT2.out ?_) | (with_reducible refine wpl_loadmw (o := ⟨some 21, _, _, _, _, _⟩) (by first | rfl | (go_simp; done) | fail) rfl row_aid FMT2.out rfl LT2.out ?_))
          refine (HP.out _ H1.out H2.out).mono ?_
          clear c1 c2 FME FMH FMT FME2 FMH2 FMT2
          rintro e w2_ ⟨rfl, hb_⟩
          have hb_ := hb_
          clear hb_
          have HB_ := Lib.hid (HB.out.grow' hb_)
          clear HB
          have HB := HB_
          clear HB_
          have HX_ := Lib.hid (HX.out.grow hb_)
          clear HX
          have HX := HX_
          clear HX_
          have HY_ := Lib.hid (HY.out.grow hb_)
          clear HY
          have HY := HY_
          clear HY_
          clear hb_
          try clear w_
          rename World => w_
          have FME := Lib.hid (ME.out _ _ _ HX.out.blk)
          have FMH := Lib.hid (MH.out _ _ _ HX.out.blk)
          have FMT := Lib.hid (MT.out _ _ _ HX.out.blk)
          have FME2 := Lib.hid (ME2.out _ _ _ HY.out.blk)
          have FMH2 := Lib.hid (MH2.out _ _ _ HY.out.blk)
          have FMT2 := Lib.hid (MT2.out _ _ _ HY.out.blk)
          have c1 := HX.out.blk.at_ HV.out; have c2 := HY.out.blk.at_ HV2.out
          go_wp2_with (first | (with_reducible refine wpl_loadm (o := ⟨some 6, _, _, _, _, _⟩) rfl rfl row_entry FME.out rfl LE.out ?_) | (with_reducible refine wpl_loadmw (o := ⟨some 6, _, _, _, _, _⟩) (by first | rfl | (go_simp; done) | fail) rfl row_entry FME.out rfl LE.out ?_) | (with_reducible refine wpl_loadm (o := ⟨some 8, _, _, _, _, _⟩) rfl rfl row_entry FME2.out rfl LE2.out ?_) | (with_reducible refine wpl_loadmw (o := ⟨some 8, _, _, _, _, _⟩) (by first | rfl | (go_simp; done) | fail) rfl row_entry FME2.out rfl LE2.out ?_) | (with_reducible refine wpl_loadm (o := ⟨some 12, _, _, _, _, _⟩) rfl rfl row_header FMH.out rfl LH.out ?_) | (with_reducible refine wpl_loadmw (o := ⟨some 12, _, _, _, _, _⟩) (by first | rfl | (go_simp; done) | fail) rfl row_header FMH.out rfl LH.out ?_) | (with_reducible refine wpl_loadm (o := ⟨some 14, _, _, _, _, _⟩) rfl rfl row_header FMH2.out rfl LH2.out ?_) | (with_reducible refine wpl_loadmw (o := ⟨some 14, _, _, _, _, _⟩) (by first | rfl | (go_simp; done) | fail) rfl row_header FMH2.out rfl LH2.out ?_) | (with_reducible refine wpl_loadm (o := ⟨some 19, _, _, _, _, _⟩) rfl rfl row_aid FMT.out rfl LT.out ?_) | (with_reducible refine wpl_loadmw (o := ⟨some 19, _, _, _, _, _⟩) (by first | rfl | (go_simp; done) | fail) rfl row_aid FMT.out rfl LT.out ?_) | (with_reducible refine wpl_loadm (o := ⟨some 21, _, _, _, _, _⟩) rfl rfl row_aid FMT2.out rfl LT2.out ?_) | (with_reducible refine wpl_loadmw (o := ⟨some 21, _, _, _, _, _⟩) (by first | rfl | (go_simp; done) | fail) rfl row_aid FMT2.out rfl LT2.out ?_))
          go_ret
          exact ⟨by rw [HRES_.out]; rfl, HB.out⟩
        | true =>
          have HRES_ := Lib.hid (show res = true by rw [HRES.out]; rfl)
          have FME := Lib.hid (ME.out _ _ _ HX.out.blk)
          have FMH := Lib.hid (MH.out _ _ _ HX.out.blk)
          have FMT := Lib.hid (MT.out _ _ _ HX.out.blk)
          have FME2 := Lib.hid (ME2.out _ _ _ HY.out.blk)
          have FMH2 := Lib.hid (MH2.out _ _ _ HY.out.blk)
          have FMT2 := Lib.hid (MT2.out _ _ _ HY.out.blk)
          have c1 := HX.out.blk.at_ HV.out; have c2 := HY.out.blk.at_ HV2.out
          go_wp2_with (first | (with_reducible refine wpl_loadm (o := ⟨some 6, _, _, _, _, _⟩) rfl rfl row_entry FME.out rfl LE.out ?_) | (with_reducible refine wpl_loadmw (o := ⟨some 6, _, _, _, _, _⟩) (by first | rfl | (go_simp; done) | fail) rfl row_entry FME.out rfl LE.out ?_) | (with_reducible refine wpl_loadm (o := ⟨some 8, _, _, _, _, _⟩) rfl rfl row_entry FME2.out rfl LE2.out ?_) | (with_reducible refine wpl_loadmw (o := ⟨some 8, _, _, _, _, _⟩) (by first | rfl | (go_simp; done) | fail) rfl row_entry FME2.out rfl LE2.out ?_) | (with_reducible refine wpl_loadm (o := ⟨some 12, _, _, _, _, _⟩) rfl rfl row_header FMH.out rfl LH.out ?_) | (with_reducible refine wpl_loadmw (o := ⟨some 12, _, _, _, _, _⟩) (by first | rfl | (go_simp; done) | fail) rfl row_header FMH.out rfl LH.out ?_) | (with_reducible refine wpl_loadm (o := ⟨some 14, _, _, _, _, _⟩) rfl rfl row_header FMH2.out rfl LH2.out ?_) | (with_reducible refine wpl_loadmw (o := ⟨some 14, _, _, _, _, _⟩) (by first | rfl | (go_simp; done) | fail) rfl row_header FMH2.out rfl LH2.out ?_) | (with_reducible refine wpl_loadm (o := ⟨some 19, _, _, _, _, _⟩) rfl rfl row_aid FMT.out rfl LT.out ?_) | (with_reducible refine wpl_loadmw (o := ⟨some 19, _, _, _, _, _⟩) (by first | rfl | (go_simp; done) | fail) rfl row_aid FMT.out rfl LT.out ?_) | (with_reducible refine wpl_loadm (o := ⟨some 21, _, _, _, _, _⟩) rfl rfl row_aid FMT2.out rfl LT2.out ?_) | (with_reducible refine wpl_loadmw (o := ⟨some 21, _, _, _, _, _⟩) (by first | rfl | (go_simp; done) | fail) rfl row_aid FMT2.out rfl LT2.out ?_))
          refine (HP.out _ H1.out H2.out).mono ?_
          clear c1 c2 FME FMH FMT FME2 FMH2 FMT2
          rintro e w2_ ⟨rfl, hb_⟩
          have hb_ := hb_
          clear hb_
          have HB_ := Lib.hid (HB.out.grow' hb_)
          clear HB
          have HB := HB_
          clear HB_
          have HX_ := Lib.hid (HX.out.grow hb_)
          clear HX
          have HX := HX_
          clear HX_
          have HY_ := Lib.hid (HY.out.grow hb_)
          clear HY
          have HY := HY_
          clear HY_
          clear hb_
          try clear w_
          rename World => w_
          have FME := Lib.hid (ME.out _ _ _ HX.out.blk)
          have FMH := Lib.hid (MH.out _ _ _ HX.out.blk)
          have FMT := Lib.hid (MT.out _ _ _ HX.out.blk)
          have FME2 := Lib.hid (ME2.out _ _ _ HY.out.blk)
          have FMH2 := Lib.hid (MH2.out _ _ _ HY.out.blk)
          have FMT2 := Lib.hid (MT2.out _ _ _ HY.out.blk)
          have c1 := HX.out.blk.at_ HV.out; have c2 := HY.out.blk.at_ HV2.out
          go_wp2_with (first | (with_reducible refine wpl_loadm (o := ⟨some 6, _, _, _, _, _⟩) rfl rfl row_entry FME.out rfl LE.out ?_) | (with_reducible refine wpl_loadmw (o := ⟨some 6, _, _, _, _, _⟩) (by first | rfl | (go_simp; done) | fail) rfl row_entry FME.out rfl LE.out ?_) | (with_reducible refine wpl_loadm (o := ⟨some 8, _, _, _, _, _⟩) rfl rfl row_entry FME2.out rfl LE2.out ?_) | (with_reducible refine wpl_loadmw (o := ⟨some 8, _, _, _, _, _⟩) (by first | rfl | (go_simp; done) | fail) rfl row_entry FME2.out rfl LE2.out ?_) | (with_reducible refine wpl_loadm (o := ⟨some 12, _, _, _, _, _⟩) rfl rfl row_header FMH.out rfl LH.out ?_) | (with_reducible refine wpl_loadmw (o := ⟨some 12, _, _, _, _, _⟩) (by first | rfl | (go_simp; done) | fail) rfl row_header FMH.out rfl LH.out ?_) | (with_reducible refine wpl_loadm (o := ⟨some 14, _, _, _, _, _⟩) rfl rfl row_header FMH2.out rfl LH2.out ?_) | (with_reducible refine wpl_loadmw (o := ⟨some 14, _, _, _, _, _⟩) (by first | rfl | (go_simp; done) | fail) rfl row_header FMH2.out rfl LH2.out ?_) | (with_reducible refine wpl_loadm (o := ⟨some 19, _, _, _, _, _⟩) rfl rfl row_aid FMT.out rfl LT.out ?_) | (with_reducible refine wpl_loadmw (o := ⟨some 19, _, _, _, _, _⟩) (by first | rfl | (go_simp; done) | fail) rfl row_aid FMT.out rfl LT.out ?_) | (with_reducible refine wpl_loadm (o := ⟨some 21, _, _, _, _, _⟩) rfl rfl row_aid FMT2.out rfl LT2.out ?_) | (with_reducible refine wpl_loadmw (o := ⟨some 21, _, _, _, _, _⟩) (by first | rfl | (go_simp; done) | fail) rfl row_aid FMT2.out rfl LT2.out ?_))
          go_ret
          exact ⟨by rw [HRES_.out]; rfl, HB.out⟩

end Go.Proofs.Ytofhohofaedokaa

/- Contract of layer 6's Is outside the ring. -/
namespace Go.Proofs.Ytofhohofaedokaa
open Go.RowKit Go.Shelf
set_option linter.unusedVariables false

end Go.Proofs.Ytofhohofaedokaa

/- The walks of seisinlaw06: awake, TagTells, TagRings. -/
namespace Go.Proofs.Ytofhohofaedokaa
open Go.RowKit Go.Shelf
set_option linter.unusedVariables false

theorem awake6_ne : tagB (tagB [1] [0]) [5] ≠ tagB (tagB [1] [1]) [5] := by decide +kernel
set_option maxRecDepth 100000 in
theorem eql_bb (d : Bool) (w : World) : (binOp .eql 4 (.bool d) (.bool d)).run Try.prog w = .ok (.bool true) w := by
  cases d <;> rfl
theorem eq_comm_b (a b : List UInt8) : (b == a) = decide (a = b) := by
  by_cases h : a = b
  · subst h; simp
  · simp [h, Ne.symm h]

end Go.Proofs.Ytofhohofaedokaa

/- Contracts of cert.Is and cert.Proves. -/
namespace Go.Proofs.Ytofhohofaedokaa
open Go.RowKit Go.Shelf
set_option linter.unusedVariables false
theorem cert_ats {v : Value} {c : Cer} (h : c.ok) : (certV v c)[0]? = some (.int .i64 c.e.kind) ∧ (certV v c)[1]? = some (.int .i64 c.e.shard) ∧ (certV v c)[36]? = some (.int .i64 c.e.epoch) ∧ (certV v c)[37]? = some v ∧ (certV v c)[38]? = some (.int .i64 c.h.shard) ∧ (certV v c)[40]? = some (.int .i64 c.h.epoch) :=
  ⟨cert_e (ent_at h.1).1, cert_e (ent_at h.1).2.1, cert_e (ent_at h.1).2.2.2.2, cert_v h, cert_h h (j := 0) (hdr_at h.2.2.1).1, cert_h h (j := 2) (hdr_at h.2.2.1).2.2⟩
theorem shard_nat {x : Cer} (h : midC x = true) : ∃ k : Nat, x.h.shard = (k : Int) ∧ k ≤ 63 := by
  unfold midC at h
  simp only [Bool.and_eq_true] at h
  have := rightH_iff.1 h.1.1.2
  exact ⟨x.h.shard.toNat, by omega, by omega⟩
theorem isC_split {seed : List UInt8} {N : Nat} {x : Cer} {re rh d1 d2 tr tg : Bool} (h1 : re = rightE x.e) (h2 : rh = rightH x.h) (h3 : (x.e.shard == x.h.shard) = d1) (h4 : (x.e.epoch == x.h.epoch) = d2) (h5 : treeC x = tr) (h6 : tagC seed N x = tg) : isC seed N x = (re && rh && d1 && d2 && tr && tg) := by
  unfold isC midC
  rw [h1, h2, ← h3, ← h4, h5, h6, Bool.beq_eq_decide_eq, Bool.beq_eq_decide_eq]
end Go.Proofs.Ytofhohofaedokaa

/- Contracts of cert.Proves and cert.Make. -/
namespace Go.Proofs.Ytofhohofaedokaa
open Go.RowKit Go.Shelf
set_option linter.unusedVariables false
def noCer : Cer := ⟨noEnt, [], noHdr, zeroD⟩
theorem noCer_ok : noCer.ok := ⟨noEnt_ok, by simp [noCer], noHdr_ok, by simp [noCer, zeroD]⟩
/-- A certificate as it is made, if it is right. -/
def mkC (seed : List UInt8) (N : Nat) (ls : List (List UInt8)) (e : Ent) (h : Hdr) : Cer := ⟨e, pathI ls 1, h, if 0 ≤ h.shard ∧ h.shard < N then tagB (keyS seed h.shard) (putHB h) else zeroD⟩
def mkOK (seed : List UInt8) (N : Nat) (ls : List (List UInt8)) (e : Ent) (h : Hdr) : Bool := rightH h && isC seed N (mkC seed N ls e h)
def mkR (seed : List UInt8) (N : Nat) (ls : List (List UInt8)) (e : Ent) (h : Hdr) : Cer := if mkOK seed N ls e h = true then mkC seed N ls e h else noCer
theorem mkC_ok {seed : List UInt8} {N : Nat} {ls : List (List UInt8)} {e : Ent} {h : Hdr} (he : e.ok) (hh : h.ok) : (mkC seed N ls e h).ok := by
  refine ⟨he, pathI_32 ls 1, hh, ?_⟩
  show (if 0 ≤ h.shard ∧ h.shard < N then tagB (keyS seed h.shard) (putHB h) else zeroD).length = 32
  split
  · exact tagB_length _ _
  · simp [zeroD]
theorem built_cert0 (parts : List (Nat × Value)) : Try.prog.built 36 parts = Instr.fill (fun i => (#[(0, 37), (37, 1), (38, 67), (105, 32)] : Array (Nat × Nat))[i]?) (certV (.slice none 0 0) noCer).toArray parts := by kernel_rfl
theorem built_certE : Try.prog.built 36 [] = some (certV (.slice none 0 0) noCer).toArray := by rw [built_cert0]; rfl
theorem zero_cert : (Try.prog.info? 36).map (·.zero) = some (some (.agg (certV (.slice none 0 0) noCer).toArray)) := by kernel_rfl
theorem len_cert : (certV (.slice none 0 0) noCer).length = 137 := certV_len noCer_ok
theorem splice_c1 {v : Value} {c : Cer} {e : Ent} (hc : c.ok) (he : e.ok) : splice (certV v c) 0 (entV e) = certV v { c with e := e } := by
  have := splice_mid (pre := ([] : List Value)) (old := entV c.e) (new := entV e) (post := v :: (hdrV c.h ++ c.tag.map B)) (off := 0) rfl (by rw [entV_length hc.1, entV_length he])
  exact this
theorem splice_c2 {u v : Value} {c : Cer} (hc : c.ok) : splice (certV v c) 37 [u] = certV u c := by
  have := splice_mid (pre := entV c.e) (old := [v]) (new := [u]) (post := hdrV c.h ++ c.tag.map B) (off := 37) (entV_length hc.1) rfl
  exact this
theorem splice_c3 {v : Value} {c : Cer} {h : Hdr} (hc : c.ok) (hh : h.ok) : splice (certV v c) 38 (hdrV h) = certV v { c with h := h } := by
  have := splice_mid (pre := entV c.e ++ [v]) (old := hdrV c.h) (new := hdrV h) (post := c.tag.map B) (off := 38) (by rw [List.length_append, entV_length hc.1]; rfl) (by rw [hdrV_length hc.2.2.1, hdrV_length hh])
  simpa [certV] using this
theorem splice_c4 {v : Value} {c : Cer} {d : List UInt8} (hc : c.ok) (hd : d.length = 32) : splice (certV v c) 105 (d.map B) = certV v { c with tag := d } := by
  have := splice_mid (pre := entV c.e ++ v :: hdrV c.h) (old := c.tag.map B) (new := d.map B) (post := ([] : List Value)) (off := 105) (by rw [List.length_append, entV_length hc.1, List.length_cons, hdrV_length hc.2.2.1]) (by rw [List.length_map, List.length_map, hc.2.2.2, hd])
  simpa [certV] using this
theorem certV_path {v : Value} {c : Cer} {p : List (List UInt8)} : certV v { c with path := p } = certV v c := rfl
theorem bt_cert {x : Cer} (hx : x.ok) {A : Option Addr} {n c : Nat} : Try.prog.built 36 [(0, .agg (entV x.e).toArray), (1, .slice A n c), (2, .agg (hdrV x.h).toArray), (3, .agg (x.tag.map B).toArray)] = some (certV (.slice A n c) x).toArray := by
  have k1 : ({ noCer with e := x.e } : Cer).ok := ⟨hx.1, noCer_ok.2.1, noCer_ok.2.2.1, noCer_ok.2.2.2⟩
  have k3 : ({ noCer with e := x.e, h := x.h } : Cer).ok := ⟨hx.1, noCer_ok.2.1, hx.2.2.1, noCer_ok.2.2.2⟩
  have l1 := certV_len (v := .slice none 0 0) noCer_ok
  have l2 := certV_len (v := .slice none 0 0) k1
  have l3 := certV_len (v := .slice A n c) k1
  have l4 := certV_len (v := .slice A n c) k3
  rw [built_cert0, fill_cons (off := 0) (s := 37) (cs := entV x.e) rfl rfl (entV_length hx.1) (by rw [l1]; omega), splice_c1 noCer_ok hx.1,
    fill_cons (off := 37) (s := 1) (cs := [.slice A n c]) rfl rfl rfl (by rw [l2]; omega), splice_c2 k1,
    fill_cons (off := 38) (s := 67) (cs := hdrV x.h) rfl rfl (hdrV_length hx.2.2.1) (by rw [l3]; omega), splice_c3 k1 hx.2.2.1,
    fill_cons (off := 105) (s := 32) (cs := x.tag.map B) rfl rfl (by rw [List.length_map]; exact hx.2.2.2) (by rw [l4]; omega), splice_c4 k3 hx.2.2.2, fill_nil]
  rfl
theorem Ids.off {w w' : World} {A : Option Addr} {n c g : Nat} {ds : List (List UInt8)} (h : Ids w A n c ds) (hg : w.grownBy w' (some g)) (hne : ∀ k, A.map Addr.block = some k → g < k) : Ids w' A n c ds := by
  obtain ⟨⟨h0, h1⟩, h2⟩ := h
  refine ⟨⟨h0, fun hn => ?_⟩, h2⟩
  obtain ⟨b, off, e, hb, hc⟩ := h1 hn
  refine ⟨b, off, e, Nat.lt_of_lt_of_le hb hg.size, fun j u hu => ?_⟩
  exact (World.cell?_of_block (hg.block b hb (fun q => by have := hne b (by rw [e]; rfl); injection q with q; omega))).trans (hc j u hu)
end Go.Proofs.Ytofhohofaedokaa

/- seisinlaw03.awake. -/
import Derived.Test.YtphmefhnffoafaaTxReadsB4
import Derived.Lib.SlBytesConst
import Derived.Stop.BytesEq
import Derived.Test.YtphmefhnffoafaaTxReadsB3
import Derived.Test.YtphmefhnffoafaaTxReadsB2
import Derived.Test.YtphmefhnffoafaaRows
import Derived.Test.YtphmefhnffoafaaTxReadsB1
import Derived.Laws.IdiomCopy
import Derived.Lib.Strings
import Derived.Lib.BitFns
set_option linter.unusedSimpArgs false
/- seisinlaw03.awake. -/
namespace Go.Proofs.Ytphmefhnffoafaa
open Go.RowKit Go.Shelf
set_option linter.unusedVariables false

theorem abc_hex : hexB (sha [97, 98, 99]) = [98, 97, 55, 56, 49, 54, 98, 102, 56, 102, 48, 49, 99, 102, 101, 97, 52, 49, 52, 49, 52, 48, 100, 101, 53, 100, 97, 101, 50, 50, 50, 51, 98, 48, 48, 51, 54, 49, 97, 51, 57, 54, 49, 55, 55, 97, 57, 99, 98, 52, 49, 48, 102, 102, 54, 49, 102, 50, 48, 48, 49, 53, 97, 100] := by decide +kernel

theorem Sl.litm {sz : Nat} (w : World) (cs : Array Value) (t : TypeId) (fr : Nat × Nat) (n : Nat) (h : cs.size = n * sz) : Sl (w.alloc (.cells cs t fr)) (w.heap.size + 1) sz (some ⟨w.heap.size, 0, none⟩) n cs.toList :=
  ⟨by simpa using h, fun _ => ⟨_, _, rfl, by omega, fun j u hu => by rw [Nat.zero_add, World.cell?_alloc_mark]; simpa using hu⟩⟩
theorem conv_abc (w : World) : (convert 22 22 (.slice (some ⟨w.heap.size, 0, none⟩) 3 3)).run Try.prog (w.alloc (.cells #[.int .u8 97, .int .u8 98, .int .u8 99] 5)) = .ok (.slice (some ⟨w.heap.size, 0, none⟩) 3 3) (w.alloc (.cells #[.int .u8 97, .int .u8 98, .int .u8 99] 5 (3, 4))) :=
  Go.Lib.run_convert_bytes_const w 22 5 #[.int .u8 97, .int .u8 98, .int .u8 99] 3 3 Try.underlying22 (by kernel_rfl)
attribute [local go_sem high] conv_abc
end Go.Proofs.Ytphmefhnffoafaa

/- The contracts of layer 3, ready for the laws: facts that last while memory grows; equality of digests. -/
namespace Go.Proofs.Ytphmefhnffoafaa
open Go.RowKit Go.Shelf
set_option linter.unusedVariables false
theorem Parts.grow {w w' : World} {A : Option Addr} {n : Nat} {ps : List (Value × List UInt8)} (h : Parts w w.heap.size A n ps) (k : Grow w w') : Parts w' w'.heap.size A n ps := (h.below k).more k.size
theorem eql_ids (a b : List UInt8) (ha : a.length = 32) (hb : b.length = 32) (w : World) : (binOp .eql 37 (.agg (a.map B).toArray) (.agg (b.map B).toArray)).run Try.prog w = .ok (.bool (a == b)) w :=
  run_eql_bytes w 37 5 32 Try.underlying37 (by kernel_rfl) (fun w => by
    obtain ⟨i, hi, hs⟩ := Option.map_eq_some_iff.1 (show (Try.prog.info? 5).map (·.size) = some 1 by kernel_rfl)
    simp [sizeOf, typeInfo, hi, hs]) a b ha hb
/-- A digest's cells. -/
def Dig (xs : List Value) (d : List UInt8) : Prop := xs = d.map B ∧ d.length = 32
theorem Dig.sha (bs : List UInt8) : Dig ((sha bs).map B) (sha bs) := ⟨rfl, sha_length bs⟩
theorem Dig.len {xs : List Value} {d : List UInt8} (h : Dig xs d) : xs.length = 32 := by rw [h.1, List.length_map, h.2]
theorem Dig.one {xs : List Value} {d : List UInt8} (h : Dig xs d) : ∀ u ∈ xs, u.oneCell' = true := by rw [h.1]; exact all_bytes d
theorem Dig.eql {xs ys : List Value} {a b : List UInt8} (h : Dig xs a) (k : Dig ys b) (w : World) : (binOp .eql 37 (.agg xs.toArray) (.agg ys.toArray)).run Try.prog w = .ok (.bool (a == b)) w := by
  rw [h.1, k.1]; exact eql_ids a b h.2 k.2 w
theorem Dig.self {xs : List Value} {a : List UInt8} (h : Dig xs a) (w : World) : (binOp .eql 37 (.agg xs.toArray) (.agg xs.toArray)).run Try.prog w = .ok (.bool true) w := by
  rw [h.eql h]; simp
theorem Dig.neq {xs ys : List Value} {a b : List UInt8} (h : Dig xs a) (k : Dig ys b) (w : World) : (binOp .neq 37 (.agg xs.toArray) (.agg ys.toArray)).run Try.prog w = .ok (.bool (a != b)) w := by
  have e := h.eql k w
  unfold binOp at e ⊢
  simp only [Sem.run_bind] at e ⊢
  generalize (Op.equal 37 (.agg xs.toArray) (.agg ys.toArray)).run Try.prog w = r at *
  cases r with
  | ok v w' =>
    simp only [Result.andThen_ok, Sem.run_pure, Result.ok.injEq, Value.bool.injEq] at e ⊢
    obtain ⟨rfl, rfl⟩ := e
    exact ⟨rfl, rfl⟩
  | halt x w' => simp [Result.andThen] at e
/-- A list of slices of bytes. -/
def PartOK (w : World) (Bd : Nat) (p : Value × List UInt8) : Prop := ∃ A c, p.1 = .slice A p.2.length c ∧ p.2.length ≤ c ∧ Sl w Bd 1 A p.2.length (p.2.map B)
theorem part_mk {w : World} {Bd n c : Nat} {A : Option Addr} {bs : List UInt8} (h : Sl w Bd 1 A n (bs.map B)) (hc : n ≤ c) : PartOK w Bd (.slice A n c, bs) := by
  have e : bs.length = n := by have := h.len; simpa using this
  refine ⟨A, c, by rw [e], by rw [e]; exact hc, by rw [e]; exact h⟩
theorem parts_mk {w : World} {Bd n : Nat} {A : Option Addr} {ps : List (Value × List UInt8)} (h : Sl w Bd 1 A n (ps.map Prod.fst)) (hp : ∀ p ∈ ps, PartOK w Bd p) : Parts w Bd A n ps := ⟨h, hp⟩
theorem parts_blk {w : World} {g n : Nat} {t : TypeId} {ps : List (Value × List UInt8)} (h : Blk w g t (ps.map Prod.fst)) (hn : ps.length = n) (hp : ∀ p ∈ ps, PartOK w w.heap.size p) : Parts w w.heap.size (some ⟨g, 0, none⟩) n ps :=
  parts_mk (h.sl (by simp [hn])) hp
end Go.Proofs.Ytphmefhnffoafaa

/- Arguments opened: bytes, lists of bytes, lists of digests. -/
namespace Go.Proofs.Ytphmefhnffoafaa
open Go.RowKit Go.ChangeShapes Go.WideShapes
set_option linter.unusedVariables false
set_option maxRecDepth 100000
section
variable {H : Type} {enc : TypeId × Value → H} {w : World} {r : Reach} {b0 base : Nat} {spare : Nat → Bool} {held : Bool}
theorem open_b {v : Value} {d : DataW H} {ps : List MemPlace} (hval : Value.okWide Try.prog w r b0 22 v) (h : DataW.Trod enc Try.prog w base spare held 22 v d ps) :
    ∃ A n c, ∃ bs : List UInt8, v = .slice A n c ∧ Sl w w.heap.size 1 A n (bs.map B) ∧ n ≤ c ∧ c ≤ maxLen := open_u8s Try.underlying22 Try.underlying5 (by kernel_rfl) hval h
end
end Go.Proofs.Ytphmefhnffoafaa

/- Arguments opened: headers and entries. -/
namespace Go.Proofs.Ytphmefhnffoafaa
open Go.RowKit Go.ChangeShapes Go.WideShapes
set_option linter.unusedVariables false
set_option maxRecDepth 100000
section
variable {H : Type} {enc : TypeId × Value → H} {w : World} {r : Reach} {b0 base : Nat} {spare : Nat → Bool} {held : Bool}
theorem i64_of {z : Int} (h : (Lit.int .i64 z).wf = true) : I64 z := bounds_i64 h
theorem u64_of {z : Int} (h : (Lit.int .u64 z).wf = true) : U64 z := by
  simp [Lit.wf, IntKind.min, IntKind.max, IntKind.signed, IntKind.bits] at h; exact ⟨by omega, by omega⟩
theorem got {α : Type} {o : Option α} {xs : List α} {i : Nat} (h : o = xs[i]?) (hi : i < xs.length) : ∃ y, o = some y := ⟨_, h.trans (List.getElem?_eq_getElem hi)⟩
theorem cut_eq {xs : List Value} {o n : Nat} {l rest : List Value} (h : (xs.drop o).take n = l) (hr : xs.drop (o + n) = rest) : xs.drop o = l ++ rest := by
  rw [← List.take_append_drop n (xs.drop o), h, List.drop_drop, hr]
end
end Go.Proofs.Ytphmefhnffoafaa

/- A number's bytes (plain). No program in sight. -/
namespace Go.Proofs.Ytphmefhnffoafaa
set_option linter.unusedVariables false

/-- The bytes of n, the least first. -/
def leB (n : Nat) : List UInt8 := if h : n = 0 then [] else UInt8.ofNat n :: leB (n / 256)
termination_by n
decreasing_by exact Nat.div_lt_self (Nat.pos_of_ne_zero h) (by omega)
theorem leB_zero : leB 0 = [] := by rw [leB]; rfl
theorem leB_pos {n : Nat} (h : n ≠ 0) : leB n = UInt8.ofNat n :: leB (n / 256) := by rw [leB, dif_neg h]
def lenB (n : Nat) : Nat := (leB n).length
theorem lenB_zero : lenB 0 = 0 := by rw [lenB, leB_zero]; rfl
theorem lenB_pos {n : Nat} (h : n ≠ 0) : lenB n = lenB (n / 256) + 1 := by rw [lenB, leB_pos h]; rfl
theorem lenB_le : ∀ (k n : Nat), n < 256 ^ k → lenB n ≤ k
  | 0, n, h => by obtain rfl : n = 0 := by simpa using h
                  rw [lenB_zero]; omega
  | k + 1, n, h => by
    by_cases hn : n = 0
    · rw [hn, lenB_zero]; omega
    · rw [lenB_pos hn]
      have := lenB_le k (n / 256) (by rw [Nat.pow_succ] at h; omega)
      omega
theorem lenB_64 {n : Nat} (h : n ≤ 18446744073709551615) : lenB n ≤ 8 := lenB_le 8 n (by omega)
theorem leB_at : ∀ (i n : Nat), i < lenB n → (leB n)[i]? = some (UInt8.ofNat (n / 256 ^ i))
  | 0, n, h => by
    have hn : n ≠ 0 := by rintro rfl; rw [lenB_zero] at h; omega
    rw [leB_pos hn]; simp
  | i + 1, n, h => by
    have hn : n ≠ 0 := by rintro rfl; rw [lenB_zero] at h; omega
    rw [lenB_pos hn] at h
    rw [leB_pos hn, List.getElem?_cons_succ, leB_at i (n / 256) (by omega), Nat.div_div_eq_div_mul, Nat.pow_succ, Nat.mul_comm 256]
/-- A number's form: how many bytes, then these, the greatest first. -/
def numB (n : Nat) : List UInt8 := UInt8.ofNat (lenB n) :: (leB n).reverse
theorem numB_len (n : Nat) : (numB n).length = lenB n + 1 := by rw [numB, List.length_cons, List.length_reverse]; rfl
theorem numB_le {n : Nat} (h : n ≤ 18446744073709551615) : (numB n).length ≤ 9 := by rw [numB_len]; have := lenB_64 h; omega
theorem leB_len (n : Nat) : (leB n).length = lenB n := rfl
theorem numB_zero (n : Nat) : (numB n).take 1 = [UInt8.ofNat (lenB n)] := rfl
theorem numB_at {n t : Nat} (h : t < lenB n) : (numB n)[t + 1]? = some (UInt8.ofNat (n / 256 ^ (lenB n - 1 - t))) := by
  unfold numB
  rw [List.getElem?_cons_succ, List.getElem?_reverse (by rw [leB_len]; exact h), leB_len, leB_at _ _ (by omega)]
theorem take_snoc {α : Type} {l : List α} {t : Nat} {x : α} (h : l[t]? = some x) : l.take (t + 1) = l.take t ++ [x] := by
  rw [List.take_add_one, h]; rfl
theorem numB_step {n t : Nat} (h : t < lenB n) : (numB n).take (t + 1 + 1) = (numB n).take (t + 1) ++ [UInt8.ofNat (n / 256 ^ (lenB n - 1 - t))] := take_snoc (numB_at h)
theorem numB_all (n : Nat) : (numB n).take (lenB n + 1) = numB n := List.take_of_length_le (by rw [numB_len]; exact Nat.le_refl _)
theorem leB_rev {n t : Nat} (h : t < lenB n) : (leB n)[lenB n - 1 - t]? = some (UInt8.ofNat (n / 256 ^ (lenB n - 1 - t))) := leB_at _ _ (by omega)
theorem lenB_div : ∀ (j n : Nat), j ≤ lenB n → lenB (n / 256 ^ j) + j = lenB n
  | 0, n, _ => by simp
  | j + 1, n, h => by
    have hn : n ≠ 0 := by rintro rfl; rw [lenB_zero] at h; omega
    rw [lenB_pos hn] at h ⊢
    have := lenB_div j (n / 256) (by omega)
    rw [Nat.pow_succ, Nat.mul_comm, ← Nat.div_div_eq_div_mul]; omega
theorem lenB_eq0 {n : Nat} (h : lenB n = 0) : n = 0 := by
  by_cases hn : n = 0
  · exact hn
  · rw [lenB_pos hn] at h; omega
theorem b8_ofNat (n : Nat) : b8 (UInt8.ofNat n) = ((n % 256 : Nat) : Int) := by unfold b8; rw [UInt8.toNat_ofNat']
attribute [irreducible] lenB numB
end Go.Proofs.Ytphmefhnffoafaa

/- What an eye reads of bytes (plain). No program in sight. -/
namespace Go.Proofs.Ytphmefhnffoafaa
set_option linter.unusedVariables false

/-- The number of bytes, the greatest first. -/
def valB (l : List UInt8) : Nat := l.foldl (fun v c => v * 256 + c.toNat) 0
theorem valB_nil : valB [] = 0 := rfl
theorem valB_snoc (l : List UInt8) (c : UInt8) : valB (l ++ [c]) = valB l * 256 + c.toNat := by unfold valB; rw [List.foldl_append]; rfl
theorem valB_lt : ∀ (n : Nat) (l : List UInt8), l.length ≤ n → valB l < 256 ^ n
  | 0, l, h => by obtain rfl : l = [] := List.eq_nil_of_length_eq_zero (by omega); simp [valB]
  | n + 1, l, h => by
    rcases List.eq_nil_or_concat l with rfl | ⟨t, c, rfl⟩
    · exact Nat.pow_pos (by omega)
    · rw [List.concat_eq_append, valB_snoc]
      have h1 := valB_lt n t (by rw [List.concat_eq_append, List.length_append] at h; simp at h; omega)
      have h2 := c.toNat_lt
      rw [Nat.pow_succ]; omega
theorem valB_64 {l : List UInt8} (h : l.length ≤ 8) : valB l ≤ 18446744073709551615 := by have := valB_lt 8 l h; omega
theorem valB_leB : ∀ (n : Nat), valB (leB n).reverse = n := by
  intro n
  induction n using Nat.strongRecOn with
  | _ n ih =>
    by_cases h : n = 0
    · rw [h, leB_zero]; rfl
    · rw [leB_pos h, List.reverse_cons, valB_snoc, ih (n / 256) (by omega), UInt8.toNat_ofNat']
      omega
theorem leB_last : ∀ (n : Nat), n ≠ 0 → ∃ c t, (leB n).reverse = c :: t ∧ c ≠ 0 := by
  intro n
  induction n using Nat.strongRecOn with
  | _ n ih =>
    intro h
    rw [leB_pos h, List.reverse_cons]
    by_cases h2 : n / 256 = 0
    · rw [h2, leB_zero]
      refine ⟨UInt8.ofNat n, [], rfl, fun e => ?_⟩
      have := congrArg UInt8.toNat e
      rw [UInt8.toNat_ofNat'] at this
      have h3 : (0 : UInt8).toNat = 0 := rfl
      omega
    · obtain ⟨c, t, h3, h4⟩ := ih (n / 256) (by omega) h2
      exact ⟨c, t ++ [UInt8.ofNat n], by rw [h3]; rfl, h4⟩

abbrev Rd (α : Type) := Except Nat (α × List UInt8)
def takeR (n : Nat) (l : List UInt8) : Rd (List UInt8) := if n ≤ l.length then .ok (l.take n, l.drop n) else .error 2
/-- The next number. -/
def numR (most : Nat) : List UInt8 → Rd Nat
  | [] => .error 2
  | k :: t => if 8 < k.toNat then .error 3 else if t.length < k.toNat then .error 2 else if 0 < k.toNat ∧ t[0]? = some 0 then .error 3
      else if most < valB (t.take k.toNat) then .error 5 else .ok (valB (t.take k.toNat), t.drop k.toNat)
def textR (most : Nat) (l : List UInt8) : Rd (List UInt8) := match numR most l with
  | .error x => .error x
  | .ok (v, t) => takeR v t
theorem takeR_app {b t : List UInt8} : takeR b.length (b ++ t) = .ok (b, t) := by
  unfold takeR
  rw [if_pos (by simp), List.take_left, List.drop_left]
theorem takeR_len {n : Nat} {b t : List UInt8} (h : b.length = n) : takeR n (b ++ t) = .ok (b, t) := by rw [← h]; exact takeR_app
theorem numR_put {n most : Nat} {t : List UInt8} (h : n ≤ most) (h64 : n ≤ 18446744073709551615) : numR most (numB n ++ t) = .ok (n, t) := by
  have h8 := lenB_64 h64
  have e0 : numB n = UInt8.ofNat (lenB n) :: (leB n).reverse := by unfold numB; rfl
  have e1 : (UInt8.ofNat (lenB n)).toNat = ((leB n).reverse).length := by rw [UInt8.toNat_ofNat', List.length_reverse, leB_len]; omega
  rw [e0, List.cons_append]
  simp only [numR]
  rw [e1, List.take_left, List.drop_left, valB_leB]
  have e2 : ((leB n).reverse).length = lenB n := by rw [List.length_reverse, leB_len]
  rw [if_neg (by omega), if_neg (by simp), if_neg, if_neg (by omega)]
  rintro ⟨h1, h2⟩
  have hn : n ≠ 0 := by rintro rfl; rw [e2, lenB_zero] at h1; omega
  obtain ⟨c, t', h3, h4⟩ := leB_last n hn
  rw [h3] at h2
  simp at h2
  exact h4 h2
theorem textR_put {b t : List UInt8} {most : Nat} (h : b.length ≤ most) (h64 : b.length ≤ 18446744073709551615) : textR most (numB b.length ++ (b ++ t)) = .ok (b, t) := by
  unfold textR
  rw [numR_put h h64]
  exact takeR_app
theorem numR_le {most : Nat} {l t : List UInt8} {v : Nat} (h : numR most l = .ok (v, t)) : v ≤ most ∧ v ≤ 18446744073709551615 ∧ t.length ≤ l.length := by
  cases l with
  | nil => cases h
  | cons k l =>
    simp only [numR] at h
    split at h
    · cases h
    · split at h
      · cases h
      · split at h
        · cases h
        · split at h
          · cases h
          · injection h with h
            injection h with h1 h2
            rename_i h8 _ _ hm
            subst h1; subst h2
            refine ⟨by omega, valB_64 (by rw [List.length_take]; omega), by simp; omega⟩
theorem takeR_le {n : Nat} {l b t : List UInt8} (h : takeR n l = .ok (b, t)) : b.length = n ∧ t.length ≤ l.length := by
  unfold takeR at h
  split at h
  · injection h with h; injection h with h1 h2
    subst h1; subst h2
    rw [List.length_take, List.length_drop]; omega
  · cases h
theorem textR_le {most : Nat} {l b t : List UInt8} (h : textR most l = .ok (b, t)) : b.length ≤ most ∧ t.length ≤ l.length := by
  unfold textR at h
  cases hn : numR most l with
  | error x => rw [hn] at h; cases h
  | ok p =>
    obtain ⟨v, t'⟩ := p
    rw [hn] at h
    have h1 := numR_le hn
    have h2 := takeR_le h
    omega
end Go.Proofs.Ytphmefhnffoafaa

/- Contracts of sums.Add and sums.All, and of the document's; in seats where other words are taken. -/
namespace Go.Proofs.Ytphmefhnffoafaa
open Go.RowKit

def small (n : Int) : Bool := decide (n ≤ 4611686018427387904)

theorem take_all_snoc (zs : List Int) (k : Nat) (h : k < zs.length) : (zs.take (k+1)).all small = ((zs.take k).all small && small (zs[k]?.getD 0)) := by
  rw [List.take_succ_eq_append_getElem h, List.all_append]; simp [h]

theorem is_any (b off n cap : Nat) (zs : List Int) (w : World) (hn : n = zs.length) (hlen : zs.length ≤ 1000000)
    (hc : ∀ i, i < zs.length → w.cell? ⟨b, off + i, none⟩ = some (.int .u64 (zs[i]?.getD 0))) :
    Calls Try.prog 45 #[.slice (some ⟨b, off, none⟩) n cap] w fun e w' => e = .returned (.bool (zs.all small)) ∧ w = w' := by
  subst hn
  have HC := Lib.hid hc; clear hc
  go_enter Try.func45, Try.ntmps45
  go_wp2
  go_loop [7] (fun i => ∃ k : Nat, k ≤ zs.length ∧ i = .int .i64 k ∧ (zs.take k).all small = true) (fun i => zs.length - (intOf i).toNat)
  case atStart => exact ⟨0, Nat.zero_le _, rfl, rfl⟩
  case round =>
    obtain ⟨k, hk, rfl, hall⟩ := hrel
    have HA := Lib.hid hall; clear hall
    by_cases hlt : k < zs.length
    · have hcell := HC.out k hlt
      have hs := take_all_snoc zs k hlt
      generalize hz : zs[k]?.getD 0 = z at *
      have HS := Lib.hid hs; clear hs
      have Hz := Lib.hid hz; clear hz
      by_cases hb : 4611686018427387904 < z
      · go_wp2
        go_ret
        have : zs.all small = false := by
          rw [List.all_eq_false]
          have h := Hz.out
          simp [hlt] at h
          refine ⟨z, by rw [← h]; simp, ?_⟩
          simp only [small, decide_eq_true_eq]; omega
        exact ⟨ret_bool this.symm, rfl⟩
      · go_wp2
        go_round
        case rel => exact ⟨k + 1, by omega, by go_num, by rw [HS.out, HA.out]; simp [small]; omega⟩
        case measure => simp [intOf]; omega
    · go_wp2
      go_ret
      have h := HA.out
      rw [List.take_of_length_le (by omega)] at h
      exact ⟨ret_bool h.symm, rfl⟩

theorem is_two (a b : Int) (w : World) :
    Calls Try.prog 45 #[.slice (some ⟨w.heap.size, 0, none⟩) 2 2] (w.alloc (.cells #[.int .u64 a, .int .u64 b] 26)) fun e w' => e = .returned (.bool (small a && small b)) ∧ w.alloc (.cells #[.int .u64 a, .int .u64 b] 26) = w' := by
  refine (is_any w.heap.size 0 2 2 [a, b] _ rfl (by simp) ?_).mono ?_
  · intro i hi
    match i, hi with
    | 0, _ => simp
    | 1, _ => simp
  · rintro e w' ⟨rfl, rfl⟩
    exact ⟨by simp, rfl⟩

theorem is_one (a : Int) (w : World) (h : Nat) (hh : h = w.heap.size) :
    Calls Try.prog 45 #[.slice (some ⟨h, 0, none⟩) 1 1] (w.alloc (.cells #[.int .u64 a] 26)) fun e w' => e = .returned (.bool (small a)) ∧ w.alloc (.cells #[.int .u64 a] 26) = w' := by
  subst hh
  refine (is_any w.heap.size 0 1 1 [a] _ rfl (by simp) ?_).mono ?_
  · intro i hi
    match i, hi with
    | 0, _ => simp
  · rintro e w' ⟨rfl, rfl⟩
    exact ⟨by simp, rfl⟩

theorem add_ok (a b : Int) (w : World) (ha : 0 ≤ a) (hb : 0 ≤ b) (h1 : a ≤ 4611686018427387904) (h2 : b ≤ 4611686018427387904) (h3 : a + b ≤ 4611686018427387904) :
    Calls Try.prog 36 #[.int .u64 a, .int .u64 b] w fun e w' => e = .returned (.tuple #[.int .u64 (a + b), .int .i64 0]) ∧ Below w.heap.size w w' := by
  have e1 : small a = true := by simp [small]; omega
  have e2 : small b = true := by simp [small]; omega
  have e3 : small (a + b) = true := by simp [small]; omega
  go_enter Try.func36, Try.ntmps36
  go_wp2_with fail
  refine (is_two a b _).mono ?_
  rintro e w1 ⟨rfl, rfl⟩
  go_wp2_with fail
  refine (is_one (a + b) _ _ (by simp)).mono ?_
  rintro e w1 ⟨rfl, rfl⟩
  go_wp2_with fail
  go_ret2
  exact ⟨rfl, ((Below.refl _ _).alloc (by simp) _).alloc (by simp) _⟩

theorem add_no (a b : Int) (w : World) (ha : 0 ≤ a) (hb : 0 ≤ b) (h : ¬ (a ≤ 4611686018427387904 ∧ b ≤ 4611686018427387904 ∧ a + b ≤ 4611686018427387904)) :
    Calls Try.prog 36 #[.int .u64 a, .int .u64 b] w fun e w' => e = .returned (.tuple #[.int .u64 0, .int .i64 6]) ∧ Below w.heap.size w w' := by
  by_cases hab : a ≤ 4611686018427387904 ∧ b ≤ 4611686018427387904
  · obtain ⟨h1, h2⟩ := hab
    have h3 : ¬ a + b ≤ 4611686018427387904 := fun x => h ⟨h1, h2, x⟩
    clear h
    have e1 : small a = true := by simp [small]; omega
    have e2 : small b = true := by simp [small]; omega
    have e3 : small (a + b) = false := by simp [small]; omega
    go_enter Try.func36, Try.ntmps36
    go_wp2_with fail
    refine (is_two a b _).mono ?_
    rintro e w1 ⟨rfl, rfl⟩
    go_wp2_with fail
    refine (is_one (a + b) _ _ (by simp)).mono ?_
    rintro e w1 ⟨rfl, rfl⟩
    go_wp2_with fail
    go_ret2
    exact ⟨rfl, ((Below.refl _ _).alloc (by simp) _).alloc (by simp) _⟩
  · have e1 : (small a && small b) = false := by
      simp only [small, ← Bool.decide_and, decide_eq_false_iff_not]; exact hab
    clear h hab
    go_enter Try.func36, Try.ntmps36
    go_wp2_with fail
    refine (is_two a b _).mono ?_
    rintro e w1 ⟨rfl, rfl⟩
    rw [e1]
    go_wp2_with fail
    go_ret2
    exact ⟨rfl, ((Below.refl _ _).alloc (by simp) _)⟩

def plusE (a b : Int) : Int × Int := if a ≤ 4611686018427387904 ∧ b ≤ 4611686018427387904 ∧ a + b ≤ 4611686018427387904 then (a + b, 0) else (0, 6)

theorem add_any (a b : Int) (w : World) (ha : 0 ≤ a) (hb : 0 ≤ b) :
    Calls Try.prog 36 #[.int .u64 a, .int .u64 b] w fun e w' => e = .returned (.tuple #[.int .u64 (plusE a b).1, .int .i64 (plusE a b).2]) ∧ Below w.heap.size w w' := by
  unfold plusE
  split
  · rename_i h; exact add_ok a b w ha hb h.1 h.2.1 h.2.2
  · rename_i h; exact add_no a b w ha hb h

theorem radd_any (a b : Int) (w : World) (ha : 0 ≤ a) (hb : 0 ≤ b) :
    Calls Try.prog 43 #[.int .u64 a, .int .u64 b] w fun e w' => e = .returned (.tuple #[.int .u64 (plusE a b).1, .int .i64 (plusE a b).2]) ∧ w = w' := by
  unfold plusE
  by_cases h1 : a ≤ 4611686018427387904
  · by_cases h2 : b ≤ 4611686018427387904
    · by_cases h3 : a + b ≤ 4611686018427387904
      · rw [if_pos ⟨h1, h2, h3⟩]
        go_enter Try.func43, Try.ntmps43
        go_wp2_with fail
        go_ret2
        exact ⟨rfl, rfl⟩
      · rw [if_neg (fun x => h3 x.2.2)]
        go_enter Try.func43, Try.ntmps43
        go_wp2_with fail
        go_ret2
        exact ⟨rfl, rfl⟩
    · rw [if_neg (fun x => h2 x.2.1)]
      go_enter Try.func43, Try.ntmps43
      go_wp2_with fail
      go_ret2
      exact ⟨rfl, rfl⟩
  · rw [if_neg (fun x => h1 x.1)]
    go_enter Try.func43, Try.ntmps43
    go_wp2_with fail
    go_ret2
    exact ⟨rfl, rfl⟩

/-- The sum of all, as both texts reckon it. -/
def allE (s : Int) : List Int → Int × Int
  | [] => (s, 0)
  | x :: r => if (plusE s x).2 = 0 then allE (plusE s x).1 r else (0, (plusE s x).2)

theorem plusE_range (a b : Int) (ha : 0 ≤ a) (hb : 0 ≤ b) : 0 ≤ (plusE a b).1 ∧ (plusE a b).1 ≤ 4611686018427387904 ∧ ((plusE a b).2 = 0 ∨ (plusE a b).2 = 6) := by
  unfold plusE; split <;> simp <;> omega

theorem allE_drop (s : Int) (zs : List Int) (k : Nat) (h : k < zs.length) : allE s (zs.drop k) = if (plusE s (zs[k]?.getD 0)).2 = 0 then allE (plusE s (zs[k]?.getD 0)).1 (zs.drop (k+1)) else (0, (plusE s (zs[k]?.getD 0)).2) := by
  rw [List.drop_eq_getElem_cons h, allE]; simp [h]

theorem allE_range (zs : List Int) : ∀ (s : Int) (_ : ∀ z ∈ zs, 0 ≤ z) (_ : 0 ≤ s) (_ : s ≤ 4611686018427387904), 0 ≤ (allE s zs).2 ∧ (allE s zs).2 ≤ 6 := by
  induction zs with
  | nil => intro s _ _ _; simp [allE]
  | cons z zs ih =>
    intro s hz h0 h1
    have hr := plusE_range s z h0 (hz z (by simp))
    rw [allE]
    split
    · exact ih _ (fun x hx => hz x (by simp [hx])) hr.1 hr.2.1
    · simp; omega

theorem ret_pair {k1 k2 : IntKind} {a b c d : Int} (h : a = c) (h' : b = d) : Ending.returned (.tuple #[.int k1 a, .int k2 b]) = .returned (.tuple #[.int k1 c, .int k2 d]) := by rw [h, h']

theorem all_any (A : Option Addr) (n cap : Nat) (zs : List Int) (w : World) (hs : Sl w w.heap.size 1 A n (zs.map (Value.int .u64))) (hn : n ≤ 9223372036854775807) (hz : ∀ z ∈ zs, 0 ≤ z) :
    Calls Try.prog 22 #[.slice A n cap] w fun e w' => e = .returned (.tuple #[.int .u64 (allE 0 zs).1, .int .i64 (allE 0 zs).2]) ∧ Below w.heap.size w w' := by
  have hl := hs.len
  simp only [List.length_map] at hl
  have HS := Lib.hid hs; clear hs
  have HZ := Lib.hid hz; clear hz
  have HL := Lib.hid hl; clear hl
  go_enter Try.func22, Try.ntmps22
  go_wp2
  go_loopw [4, 11] (fun s i wr => ∃ k : Nat, ∃ t : Int, k ≤ n ∧ i = .int .i64 k ∧ s = .int .u64 t ∧ 0 ≤ t ∧ t ≤ 4611686018427387904 ∧ allE 0 zs = allE t (zs.drop k) ∧ Below w.heap.size w wr) (fun _ i _ => n - (intOf i).toNat)
  case atStart => exact ⟨0, 0, Nat.zero_le _, rfl, rfl, by omega, by omega, rfl, Below.refl _ _⟩
  case round =>
    obtain ⟨k, t, hk, rfl, rfl, ht0, ht1, hall, hbw⟩ := hrel
    have HA := Lib.hid hall; clear hall
    have HB := Lib.hid hbw; clear hbw
    by_cases hlt : k < n
    · obtain ⟨b, off, u, rfl, hb, hu, hc⟩ := (HS.out.below HB.out).at_ hlt
      have hd := allE_drop t zs k (by have := HL.out; omega)
      obtain ⟨z, hz', rfl⟩ : ∃ z, zs[k]? = some z ∧ u = .int .u64 z := by
        rw [List.getElem?_map] at hu
        obtain ⟨z, h1, h2⟩ := Option.map_eq_some_iff.1 hu
        exact ⟨z, h1, h2.symm⟩
      have hz0 : 0 ≤ z := HZ.out z (List.mem_of_getElem? hz')
      rw [hz'] at hd
      simp only [Option.getD_some] at hd
      have HD := Lib.hid hd; clear hd
      clear hu hz'
      have hr := plusE_range t z ht0 hz0
      by_cases h0 : (plusE t z).2 = 0
      · have hadd := add_any t z wr ht0 hz0
        generalize plusE t z = p at *
        obtain ⟨p1, p2⟩ := p
        simp only at h0 hr hadd
        subst h0
        obtain ⟨hr0, hr1, -⟩ := hr
        have HADD := Lib.hid hadd; clear hadd
        go_wp2_with fail
        refine HADD.out.mono ?_
        rintro e w1 ⟨rfl, hb1⟩
        have HB1 := Lib.hid hb1; clear hb1
        go_wp2_with fail
        go_roundw
        case rel => exact ⟨k + 1, p1, by omega, by go_num, rfl, hr0, hr1, by rw [HA.out, HD.out]; simp, HB.out.trans (HB1.out.mono HB.out.size)⟩
        case measure => simp [intOf]; omega
      · have hadd := add_any t z wr ht0 hz0
        generalize plusE t z = p at *
        obtain ⟨p1, p2⟩ := p
        simp only at h0 hr hadd
        have h6 : p2 = 6 := by omega
        subst h6
        have HADD := Lib.hid hadd; clear hadd
        clear hr h0
        go_wp2_with fail
        refine HADD.out.mono ?_
        rintro e w1 ⟨rfl, hb1⟩
        have HB1 := Lib.hid hb1; clear hb1
        go_wp2_with fail
        go_ret2
        have hfin : allE 0 zs = (0, 6) := by rw [HA.out, HD.out, if_neg (by omega)]
        exact ⟨ret_pair (by rw [hfin]) (by rw [hfin]), HB.out.trans (HB1.out.mono HB.out.size)⟩
    · go_wp2_with fail
      go_ret2
      have hfin : allE 0 zs = (t, 0) := by rw [HA.out, List.drop_eq_nil_of_le (by have := HL.out; omega)]; rfl
      exact ⟨ret_pair (by rw [hfin]) (by rw [hfin]), HB.out⟩

theorem rall_any (A : Option Addr) (n cap : Nat) (zs : List Int) (w : World) (hs : Sl w w.heap.size 1 A n (zs.map (Value.int .u64))) (hn : n ≤ 9223372036854775807) (hz : ∀ z ∈ zs, 0 ≤ z) :
    Calls Try.prog 31 #[.slice A n cap] w fun e w' => e = .returned (.tuple #[.int .u64 (allE 0 zs).1, .int .i64 (allE 0 zs).2]) ∧ Below w.heap.size w w' := by
  have hl := hs.len
  simp only [List.length_map] at hl
  have HS := Lib.hid hs; clear hs
  have HZ := Lib.hid hz; clear hz
  have HL := Lib.hid hl; clear hl
  go_enter Try.func31, Try.ntmps31
  go_wp2
  go_loopw [4, 5] (fun s i wr => ∃ k : Nat, ∃ t : Int, k ≤ n ∧ i = .int .i64 k ∧ s = .int .u64 t ∧ 0 ≤ t ∧ t ≤ 4611686018427387904 ∧ allE 0 zs = allE t (zs.drop k) ∧ wr = w) (fun _ i _ => n - (intOf i).toNat)
  case atStart => exact ⟨0, 0, Nat.zero_le _, rfl, rfl, by omega, by omega, rfl, rfl⟩
  case round =>
    obtain ⟨k, t, hk, rfl, rfl, ht0, ht1, hall, rfl⟩ := hrel
    have HA := Lib.hid hall; clear hall
    by_cases hlt : k < n
    · obtain ⟨b, off, u, rfl, hb, hu, hc⟩ := HS.out.at_ hlt
      have hd := allE_drop t zs k (by have := HL.out; omega)
      obtain ⟨z, hz', rfl⟩ : ∃ z, zs[k]? = some z ∧ u = .int .u64 z := by
        rw [List.getElem?_map] at hu
        obtain ⟨z, h1, h2⟩ := Option.map_eq_some_iff.1 hu
        exact ⟨z, h1, h2.symm⟩
      have hz0 : 0 ≤ z := HZ.out z (List.mem_of_getElem? hz')
      rw [hz'] at hd
      simp only [Option.getD_some] at hd
      have HD := Lib.hid hd; clear hd
      clear hu hz'
      have hr := plusE_range t z ht0 hz0
      by_cases h0 : (plusE t z).2 = 0
      · have hadd := radd_any t z wr ht0 hz0
        generalize plusE t z = p at *
        obtain ⟨p1, p2⟩ := p
        simp only at h0 hr hadd
        subst h0
        obtain ⟨hr0, hr1, -⟩ := hr
        have HADD := Lib.hid hadd; clear hadd
        go_wp2_with fail
        refine HADD.out.mono ?_
        rintro e w1 ⟨rfl, rfl⟩
        go_wp2_with fail
        go_roundw
        case rel => exact ⟨k + 1, p1, by omega, by go_num, rfl, hr0, hr1, by rw [HA.out, HD.out]; simp, trivial⟩
        case measure => simp [intOf]; omega
      · have hadd := radd_any t z wr ht0 hz0
        generalize plusE t z = p at *
        obtain ⟨p1, p2⟩ := p
        simp only at h0 hr hadd
        have h6 : p2 = 6 := by omega
        subst h6
        have HADD := Lib.hid hadd; clear hadd
        clear hr h0
        go_wp2_with fail
        refine HADD.out.mono ?_
        rintro e w1 ⟨rfl, rfl⟩
        go_wp2_with fail
        go_ret2
        have hfin : allE 0 zs = (0, 6) := by rw [HA.out, HD.out, if_neg (by omega)]
        exact ⟨ret_pair (by rw [hfin]) (by rw [hfin]), Below.refl _ _⟩
    · go_wp2_with fail
      go_ret2
      have hfin : allE 0 zs = (t, 0) := by rw [HA.out, List.drop_eq_nil_of_le (by have := HL.out; omega)]; rfl
      exact ⟨ret_pair (by rw [hfin]) (by rw [hfin]), Below.refl _ _⟩

theorem info_us : (Try.prog.info? 26).map (fun i => (i.zero, i.size, i.bytes)) = some (some (.int .u64 0), 1, 8) := by kernel_rfl
theorem el_us : ElemT Try.prog 57 26 1 8 := elemT Try.underlying57 info_us rfl (by omega)
end Go.Proofs.Ytphmefhnffoafaa

/- Variables that hold whole arrays: facts that last while memory grows. -/
namespace Go.Proofs.Ytphmefhnffoafaa
open Go.RowKit Go.Shelf
set_option linter.unusedVariables false
theorem wanted_none {o : Oper} {y : Nat → Option Bool} (h : o.guard = none) : Region.wanted o y = true := by unfold Region.wanted; rw [h]
/-- A block that holds n cells. -/
def At (w : World) (g : Nat) (T : TypeId) (n : Nat) (xs : List Value) : Prop := Blk w g T xs ∧ xs.length = n
theorem at_mk {w : World} {g : Nat} {T : TypeId} {n : Nat} {xs : List Value} (h : Blk w g T xs) (hn : xs.length = n) : At w g T n xs := ⟨h, hn⟩
theorem At.blk {w : World} {g : Nat} {T : TypeId} {n : Nat} {xs : List Value} (h : At w g T n xs) : Blk w g T xs := h.1
theorem At.len {w : World} {g : Nat} {T : TypeId} {n : Nat} {xs : List Value} (h : At w g T n xs) : xs.length = n := h.2
theorem At.grow {w w' : World} {g : Nat} {T : TypeId} {n : Nat} {xs : List Value} (h : At w g T n xs) (k : Grow w w') : At w' g T n xs := ⟨h.1.grow k, h.2⟩
theorem At.sl {w : World} {g : Nat} {T : TypeId} {n : Nat} {xs : List Value} (h : At w g T n xs) : Sl w w.heap.size 1 (some ⟨g, 0, none⟩) n xs := h.1.sl (by rw [h.2]; omega)
theorem At.lt {w : World} {g : Nat} {T : TypeId} {n : Nat} {xs : List Value} (h : At w g T n xs) : g < w.heap.size := h.1.lt
theorem var_grow {w w1 w2 : World} (h1 : Below w.heap.size w w1) (hz : w1.heap.size = w.heap.size + 1) (hg : w1.grownBy w2 (some w.heap.size)) : Grow w w2 :=
  h1.grown hg (by omega) (by intro g hg; cases hg; exact Nat.le_refl _)
theorem put_below {w0 w w2 : World} {g : Nat} (h : Below w0.heap.size w0 w) (hg : w0.heap.size ≤ g) (k : w.grownBy w2 (some g)) : Below w0.heap.size w0 w2 :=
  h.grown k h.size (by intro q hq; cases hq; exact hg)
theorem len_id {v : Value} : (List.replicate 32 v).length = 32 := by simp
theorem Dig.bytes {w : World} {A : Option Addr} {n : Nat} {xs : List Value} {d : List UInt8} (h : Dig xs d) (hs : Sl w w.heap.size 1 A n xs) : Sl w w.heap.size 1 A n (d.map B) := by rw [← h.1]; exact hs
/-- A row of this call's own, appended to: what lay below the call's base stays. -/
theorem app_below {w0 w w2 : World} {A : Option Addr} {e : TypeId} {sz n c : Nat} {xs : List Value} (h : Below w0.heap.size w0 w) (ho : w.ownsRow w0.heap.size e sz (.slice A n c) n xs) (k : w.grownBy w2 (A.map Addr.block)) : Below w0.heap.size w0 w2 :=
  below_grown h k h.size (own_from ho)
end Go.Proofs.Ytphmefhnffoafaa

/- Contracts of layer 6: a digest's bytes, a key filled, a pad turned. -/
namespace Go.Proofs.Ytphmefhnffoafaa
open Go.RowKit Go.Shelf
set_option linter.unusedVariables false

theorem Dig.at_ {xs : List Value} {d : List UInt8} (h : Dig xs d) {k : Nat} (hk : k < 32) : ∃ x : UInt8, xs[k]? = some (.int .u8 (b8 x)) ∧ d[k]? = some x := by
  have hl := h.2
  refine ⟨d[k]'(by omega), ?_, List.getElem?_eq_getElem (by omega)⟩
  rw [h.1, List.getElem?_map, List.getElem?_eq_getElem (by omega)]; rfl


end Go.Proofs.Ytphmefhnffoafaa

/- Contract of sha.Under. -/
namespace Go.Proofs.Ytphmefhnffoafaa
open Go.RowKit Go.Shelf
set_option linter.unusedVariables false

def longB (bs : List UInt8) : List UInt8 := beBytes bs.length 4 ++ bs
def underB (m : UInt8) (ls : List (List UInt8)) : List UInt8 := m :: ls.flatMap longB
theorem underB_snoc (m : UInt8) (ls : List (List UInt8)) (x : List UInt8) : underB m (ls ++ [x]) = underB m ls ++ (beBytes x.length 4 ++ x) := by
  unfold underB; rw [List.flatMap_append]; simp [longB]
theorem beBytes_len (v n : Nat) : (beBytes v n).length = n := by unfold beBytes; simp
theorem underB_le (m : UInt8) (ls : List (List UInt8)) (N : Nat) (h : ∀ l ∈ ls, l.length ≤ N) : (underB m ls).length ≤ 1 + ls.length * (4 + N) := by
  unfold underB
  induction ls with
  | nil => simp
  | cons x xs ih =>
    have h1 := h x (by simp)
    have h2 := ih fun l hl => h l (by simp [hl])
    simp only [List.flatMap_cons, List.length_cons, List.length_append, longB, beBytes_len, Nat.succ_mul] at *
    omega
theorem info_su8 : (Try.prog.info? 22).map (fun i => (i.zero, i.size, i.bytes)) = some (some (.slice none 0 0), 1, 24) := by kernel_rfl
/-- A part that no append onto the row 'row' turns. -/
def PartIn (w : World) (row : Option Nat) (p : Value × List UInt8) : Prop := ∃ A c, p.1 = .slice A p.2.length c ∧ p.2.length ≤ c ∧ Sl w w.heap.size 1 A p.2.length (p.2.map B) ∧ (0 < p.2.length → A.map Addr.block ≠ row)
theorem PartIn.grow {w w2 : World} {row : Option Nat} {p : Value × List UInt8} (h : PartIn w row p) (k : Grow w w2) : PartIn w2 row p := by
  obtain ⟨A, c, h1, h2, h3, h4⟩ := h
  exact ⟨A, c, h1, h2, h3.grow k, h4⟩
theorem PartIn.step {w w2 : World} {row row' : Option Nat} {p : Value × List UInt8} (h : PartIn w row p) (hg : w.grownBy w2 row) (hA : row' = row ∨ ∃ j, row' = some (w.heap.size + j)) : PartIn w2 row' p := by
  obtain ⟨A, c, h1, h2, h3, h4⟩ := h
  refine ⟨A, c, h1, h2, ⟨h3.1, fun hn => ?_⟩, fun hn => ?_⟩
  · obtain ⟨b, off, e, hb, hc⟩ := h3.2 hn
    refine ⟨b, off, e, Nat.lt_of_lt_of_le hb hg.size, fun j u hu => hg.cell (hc j u hu) ?_⟩
    have := h4 hn
    rw [e] at this
    exact this
  · obtain ⟨b, off, e, hb, hc⟩ := h3.2 hn
    rcases hA with hA | ⟨j, hA⟩
    · rw [hA]; exact h4 hn
    · rw [hA, e]
      intro hh
      simp only [Option.map_some, Option.some.injEq] at hh
      omega
theorem PartIn.ok {w : World} {row : Option Nat} {p : Value × List UInt8} (h : PartIn w row p) : PartOK w w.heap.size p := by
  obtain ⟨A, c, h1, h2, h3, h4⟩ := h
  exact ⟨A, c, h1, h2, h3⟩
theorem PartIn.of {w : World} {row : Option Nat} {Bd : Nat} {p : Value × List UInt8} (h : PartOK w Bd p) (hB : Bd ≤ w.heap.size) (hr : ∀ g, row = some g → Bd ≤ g) : PartIn w row p := by
  obtain ⟨A, c, h1, h2, h3⟩ := h
  refine ⟨A, c, h1, h2, h3.more hB, fun hn hh => ?_⟩
  obtain ⟨b, off, e, hb, _⟩ := h3.2 hn
  rw [e] at hh
  have := hr b hh.symm
  omega
theorem PartIn.own {w : World} {row : Option Nat} {base n c : Nat} {A : Option Addr} {bs : List UInt8} (h : w.ownsRow base 5 1 (.slice A n c) n (bs.map B)) (hc : n ≤ c) (hr : ∀ g, row = some g → g < base) : PartIn w row (.slice A n c, bs) := by
  have e : bs.length = n := by have := h.1; simpa using this
  refine ⟨A, c, by rw [e], by rw [e]; exact hc, by rw [e]; exact Sl.of_own h, fun _ hh => ?_⟩
  have := own_from h
  rcases A with _ | a
  · simp only [Option.map_none] at hh
    have h0 := (Sl.of_own h).2
    rename_i hpos
    obtain ⟨b, off, e2, _⟩ := h0 (by simp only at hpos; omega)
    cases e2
  · have h1 := this a.block rfl
    have h2 := hr a.block hh.symm
    omega

def UInv (w wr : World) (A : Option Addr) (c k : Nat) (qs ps : List (Value × List UInt8)) (m : UInt8) : Prop :=
  wr.ownsRow (w.heap.size + 1) 22 1 (.slice A (2 * k + 1) c) (2 * k + 1) (qs.map Prod.fst) ∧ (∀ q ∈ qs, PartIn wr (A.map Addr.block) q) ∧ cat qs = underB m ((ps.take k).map Prod.snd) ∧ Below w.heap.size w wr ∧ At wr w.heap.size 37 32 (List.replicate 32 (B 0))
theorem u_step {w wr w2 w4 : World} {A A4 : Option Addr} {c c4 k g4 : Nat} {qs ps : List (Value × List UInt8)} {m : UInt8} {p : Value × List UInt8} (h : UInv w wr A c k qs ps m) (hp : PartOK wr w.heap.size p) (hk : ps[k]? = some p)
    (hb2 : Below wr.heap.size wr w2) (ho4 : w2.ownsRow wr.heap.size 5 1 (.slice (some ⟨g4, 0, none⟩) 4 4) 4 ((beBytes p.2.length 4).map B))
    (ho : w4.ownsRow (w.heap.size + 1) 22 1 (.slice A4 (2 * k + 1 + 2) c4) (2 * k + 1 + 2) (qs.map Prod.fst ++ [.slice (some ⟨g4, 0, none⟩) 4 4, p.1]))
    (hg : w2.grownBy w4 (A.map Addr.block)) (hA : A4.map Addr.block = A.map Addr.block ∨ A4.map Addr.block = some (w2.heap.size + 1)) :
    UInv w w4 A4 c4 (k + 1) (qs ++ [(.slice (some ⟨g4, 0, none⟩) 4 4, beBytes p.2.length 4), p]) ps m := by
  obtain ⟨h1, h2, h3, h4, h5⟩ := h
  have hA' : A4.map Addr.block = A.map Addr.block ∨ ∃ j, A4.map Addr.block = some (w2.heap.size + j) := hA.imp_right fun e => ⟨1, e⟩
  have hfrom := own_from h1
  have hlt : ∀ g, A.map Addr.block = some g → g < wr.heap.size := fun g hg => (h1.lt g (by cases A <;> simp_all [Value.ownBlock])).2
  have e : 2 * (k + 1) + 1 = 2 * k + 1 + 2 := by omega
  refine ⟨?_, ?_, ?_, ?_, ?_⟩
  · rw [e, List.map_append]; exact ho
  · intro q hq
    simp only [List.mem_append, List.mem_cons, List.not_mem_nil, or_false] at hq
    rcases hq with hq | rfl | rfl
    · exact ((h2 q hq).grow hb2).step hg hA'
    · exact (PartIn.own ho4 (Nat.le_refl _) hlt).step hg hA'
    · exact ((PartIn.of hp h4.size (fun g hg => by have := hfrom g hg; omega)).grow hb2).step hg hA'
  · have e2 : cat (qs ++ [(.slice (some ⟨g4, 0, none⟩) 4 4, beBytes p.2.length 4), p]) = cat qs ++ (beBytes p.2.length 4 ++ p.2) := by unfold cat; simp
    rw [e2, h3, List.take_add_one, hk, Option.toList_some, List.map_append, List.map_cons, List.map_nil, underB_snoc]
  · exact (h4.trans (hb2.mono h4.size)).grown hg (Nat.le_trans h4.size hb2.size) fun g hg => by have := hfrom g hg; omega
  · refine ⟨(h5.1.grow hb2).grown hg fun hh => ?_, h5.2⟩
    have := hfrom _ hh.symm
    omega
theorem u_end {w wr : World} {A : Option Addr} {c n : Nat} {qs ps : List (Value × List UInt8)} {m : UInt8} (h : UInv w wr A c n qs ps m) (hn : ps.length = n) : Parts wr wr.heap.size A (2 * n + 1) qs ∧ cat qs = underB m (ps.map Prod.snd) := by
  obtain ⟨h1, h2, h3, _, _⟩ := h
  refine ⟨parts_mk (Sl.of_own h1) fun q hq => (h2 q hq).ok, ?_⟩
  rw [h3, List.take_of_length_le (by omega)]
theorem u_start {w w1 : World} {m : UInt8} {ps : List (Value × List UInt8)} (h : Below w.heap.size w w1) (hz : w.heap.size + 1 ≤ w1.heap.size) (hr : At w1 w.heap.size 37 32 (List.replicate 32 (B 0))) :
    UInv w ((w1.alloc (.cells #[B m] 5)).alloc (.cells #[.slice (some ⟨w1.heap.size, 0, none⟩) 1 1] 22)) (some ⟨w1.heap.size + 1, 0, none⟩) 1 0 [(.slice (some ⟨w1.heap.size, 0, none⟩) 1 1, [m])] ps m := by
  have h1 := alloc_new w1 #[B m] 5
  have h2 := alloc_new (w1.alloc (.cells #[B m] 5)) #[.slice (some ⟨w1.heap.size, 0, none⟩) 1 1] 22
  refine ⟨?_, ?_, ?_, ?_, ?_⟩
  · have := World.ownsRow_lit (base := w.heap.size + 1) (e := 22) (size := 1) (w1.alloc (.cells #[B m] 5)) #[.slice (some ⟨w1.heap.size, 0, none⟩) 1 1] 1 (by rw [h1.2.2]; omega) (by simp [maxLen]) rfl
    rw [h1.2.2] at this
    exact this
  · intro q hq
    simp only [List.mem_cons, List.not_mem_nil, or_false] at hq
    subst hq
    refine PartIn.grow ⟨_, _, rfl, Nat.le_refl _, h1.1.sl rfl, fun _ hh => ?_⟩ h2.2.1
    simp only [Option.map_some, Option.some.injEq] at hh
    omega
  · unfold cat; simp [underB]
  · exact h.grow' (Grow.trans _ _ _ h1.2.1 h2.2.1)
  · exact hr.grow (Grow.trans _ _ _ h1.2.1 h2.2.1)
attribute [irreducible] underB longB

end Go.Proofs.Ytphmefhnffoafaa

/- Contracts of layer 5: the length of a number, the first part, a leaf's and a node's digest; the document's. -/
namespace Go.Proofs.Ytphmefhnffoafaa
open Go.RowKit Go.Shelf
set_option linter.unusedVariables false

set_option maxRecDepth 100000 in
theorem len8tab_size' : (Lib.len8tab.size : Int) = 256 := by
  have : Lib.len8tab.size = 256 := by decide
  omega
theorem wrap_add' (k a b : Nat) (hk : k ≤ 56) (ha : a ≤ 8) (hb : b = k + a) : RowKit.wrap64 ((k : Int) + RowKit.wrap64 (a : Int)) = (b : Int) := by
  unfold RowKit.wrap64
  omega
theorem wrap_wrap' (a : Nat) (ha : a ≤ 8) : RowKit.wrap64 (RowKit.wrap64 (a : Int)) = (a : Int) := by
  unfold RowKit.wrap64
  omega
theorem len8_get' (y : Int) (h : y.toNat < Lib.len8tab.size) : ((Lib.len8tab[y.toNat]'h).toNat : Int) = Lib.len8 y := by
  unfold Lib.len8
  rw [getElem?_pos Lib.len8tab y.toNat h]
  rfl
/-- The greatest power of two below n. -/
def halfN (n : Nat) : Nat := 2 ^ Nat.log2 (n - 1)
theorem halfN_lt {n : Nat} (h : 2 ≤ n) : halfN n < n := by
  unfold halfN
  have := Nat.log2_self_le (n := n - 1) (by omega)
  omega
theorem halfN_pos (n : Nat) : 0 < halfN n := Nat.two_pow_pos _
theorem halfN_of {n j : Nat} (h1 : 2 ^ j < n) (h2 : n ≤ 2 * 2 ^ j) : halfN n = 2 ^ j := by
  unfold halfN
  have : (n - 1).log2 = j := (Nat.log2_eq_iff (by omega)).2 ⟨by omega, by rw [Nat.pow_succ]; omega⟩
  rw [this]
theorem bitLenAux_log : ∀ (f x : Nat), x < 2 ^ f → x ≠ 0 → Lib.bitLenAux f x = Nat.log2 x + 1
  | 0, x, h, h0 => by simp at h; omega
  | f + 1, x, h, h0 => by
    unfold Lib.bitLenAux
    rw [if_neg h0]
    by_cases h2 : x / 2 = 0
    · have hx : x = 1 := by omega
      subst hx
      cases f <;> simp [Lib.bitLenAux] <;> decide
    · rw [bitLenAux_log f (x / 2) (by rw [Nat.pow_succ] at h; omega) h2]
      have : x.log2 = (x / 2).log2 + 1 := by
        rw [Nat.log2_def, if_pos (by omega)]
      omega
theorem bitLen_log {x : Nat} (h : x < 2 ^ 64) (h0 : x ≠ 0) : Lib.bitLen x = Nat.log2 x + 1 := bitLenAux_log 64 x h h0

theorem log2_le24 {x : Nat} (h : x ≤ 16777215) : Nat.log2 x ≤ 23 := by
  by_cases h0 : x = 0
  · subst h0; decide
  · have := Nat.log2_lt (n := x) (k := 24) h0 |>.2 (by omega)
    omega
theorem pow_fit {j : Nat} (h : j ≤ 23) : (2 ^ j : Nat) ≤ 8388608 := Nat.le_trans (Nat.pow_le_pow_right (by omega) h) (by decide)

def leafB (b : List UInt8) : List UInt8 := sha (underB 1 [b])
def nodeB (a b : List UInt8) : List UInt8 := sha (underB 2 [a, b])
def noneB : List UInt8 := sha (underB 0 [])
theorem leafB_len (b : List UInt8) : (leafB b).length = 32 := sha_length _
theorem nodeB_len (a b : List UInt8) : (nodeB a b).length = 32 := sha_length _
theorem noneB_len : noneB.length = 32 := sha_length _

end Go.Proofs.Ytphmefhnffoafaa

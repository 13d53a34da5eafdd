/- Contracts of sums.Add and sums.All, and of the document's; in seats where other words are taken. -/
import Derived.Test.YtiijepimkgaccaaGreatCommandLongRe17
set_option linter.unusedSimpArgs false
set_option linter.unusedVariables false
set_option maxRecDepth 100000
set_option maxHeartbeats 16000000
namespace Go.Proofs.YtiijepimkgaccaaGreat
open Go.RowKit
def small (n : Int) : Bool := decide (n ≤ 4611686018427387904)
theorem take_all_snoc (zs : List Int) (k : Nat) (h : k < zs.length) : (zs.take (k+1)).all small = ((zs.take k).all small && small (zs[k]?.getD 0)) := by
 rw [List.take_succ_eq_append_getElem h, List.all_append]; simp [h]
theorem is_any (b off n cap : Nat) (zs : List Int) (w : World) (hn : n = zs.length) (hlen : zs.length ≤ 1000000)
  (hc : ∀ i, i < zs.length → w.cell? ⟨b, off + i, none⟩ = some (.int .u64 (zs[i]?.getD 0))) :
  Calls Tryz.prog 106 #[.slice (some ⟨b, off, none⟩) n cap] w fun e w' => e = .returned (.bool (zs.all small)) ∧ w = w' := by
 subst hn;have HC := kp hc; clear hc
 go_enter Tryz.func106, Tryz.ntmps106
 go_wp2
 go_loop [7] (fun i => ∃ k : Nat, k ≤ zs.length ∧ i = .int .i64 k ∧ (zs.take k).all small = true) (fun i => zs.length - (intOf i).toNat)
 case atStart => exact ⟨0, Nat.zero_le _, rfl, rfl⟩
 case round =>
  obtain ⟨k, hk, rfl, hall⟩ := hrel;have HA := kp hall; clear hall;by_cases hlt : k < zs.length
  ·have hcell := HC.o k hlt;have hs := take_all_snoc zs k hlt;generalize hz : zs[k]?.getD 0 = z at *;have HS := kp hs; clear hs;have Hz := kp hz; clear hz;by_cases hb : 4611686018427387904 < z
   ·go_wp2
    go_ret
    have : zs.all small = false := by
     rw [List.all_eq_false];have h := Hz.o;simp [hlt] at h;refine ⟨z, by rw [← h]; simp, ?_⟩;simp only [small, decide_eq_true_eq]; omega
    exact ⟨ret_bool this.symm, rfl⟩
   ·go_wp2
    go_round
    case rel => exact ⟨k + 1, by omega, by go_num, by rw [HS.o, HA.o]; simp [small]; omega⟩
    case measure => simp [intOf]; omega
  ·go_wp2
   go_ret
   have h := HA.o;rw [List.take_of_length_le (by omega)] at h;exact ⟨ret_bool h.symm, rfl⟩
theorem is_two (a b : Int) (w : World) :
  Calls Tryz.prog 106 #[.slice (some ⟨w.heap.size, 0, none⟩) 2 2] (w.alloc (.cells #[.int .u64 a, .int .u64 b] 24)) fun e w' => e = .returned (.bool (small a && small b)) ∧ w.alloc (.cells #[.int .u64 a, .int .u64 b] 24) = w' := by
 refine (is_any w.heap.size 0 2 2 [a, b] _ rfl (by simp) ?_).mono ?_
 ·intro i hi
  match i, hi with
  | 0, _ => simp
  | 1, _ => simp
 ·rintro e w' ⟨rfl, rfl⟩;exact ⟨by simp, rfl⟩
theorem is_one (a : Int) (w : World) (h : Nat) (hh : h = w.heap.size) :
  Calls Tryz.prog 106 #[.slice (some ⟨h, 0, none⟩) 1 1] (w.alloc (.cells #[.int .u64 a] 24)) fun e w' => e = .returned (.bool (small a)) ∧ w.alloc (.cells #[.int .u64 a] 24) = w' := by
 subst hh;refine (is_any w.heap.size 0 1 1 [a] _ rfl (by simp) ?_).mono ?_
 ·intro i hi
  match i, hi with
  | 0, _ => simp
 ·rintro e w' ⟨rfl, rfl⟩;exact ⟨by simp, rfl⟩
theorem add_ok (a b : Int) (w : World) (ha : 0 ≤ a) (hb : 0 ≤ b) (h1 : a ≤ 4611686018427387904) (h2 : b ≤ 4611686018427387904) (h3 : a + b ≤ 4611686018427387904) :
  Calls Tryz.prog 101 #[.int .u64 a, .int .u64 b] w fun e w' => e = .returned (.tuple #[.int .u64 (a + b), .int .i64 0]) ∧ Below w.heap.size w w' := by
 have e1 : small a = true := by simp [small]; omega
 have e2 : small b = true := by simp [small]; omega
 have e3 : small (a + b) = true := by simp [small]; omega
 go_enter Tryz.func101, Tryz.ntmps101
 go_wp2_with fail;refine (is_two a b _).mono ?_;rintro e w1 ⟨rfl, rfl⟩;go_wp2_with fail;refine (is_one (a + b) _ _ (by simp)).mono ?_;rintro e w1 ⟨rfl, rfl⟩;go_wp2_with fail
 go_ret2
 exact ⟨rfl, ((Below.refl _ _).alloc (by simp) _).alloc (by simp) _⟩
theorem add_no (a b : Int) (w : World) (ha : 0 ≤ a) (hb : 0 ≤ b) (h : ¬ (a ≤ 4611686018427387904 ∧ b ≤ 4611686018427387904 ∧ a + b ≤ 4611686018427387904)) :
  Calls Tryz.prog 101 #[.int .u64 a, .int .u64 b] w fun e w' => e = .returned (.tuple #[.int .u64 0, .int .i64 6]) ∧ Below w.heap.size w w' := by
 by_cases hab : a ≤ 4611686018427387904 ∧ b ≤ 4611686018427387904
 ·obtain ⟨h1, h2⟩ := hab;have h3 : ¬ a + b ≤ 4611686018427387904 := fun x => h ⟨h1, h2, x⟩
  clear h;have e1 : small a = true := by simp [small]; omega
  have e2 : small b = true := by simp [small]; omega
  have e3 : small (a + b) = false := by simp [small]; omega
  go_enter Tryz.func101, Tryz.ntmps101
  go_wp2_with fail;refine (is_two a b _).mono ?_;rintro e w1 ⟨rfl, rfl⟩;go_wp2_with fail;refine (is_one (a + b) _ _ (by simp)).mono ?_;rintro e w1 ⟨rfl, rfl⟩;go_wp2_with fail
  go_ret2
  exact ⟨rfl, ((Below.refl _ _).alloc (by simp) _).alloc (by simp) _⟩
 ·have e1 : (small a && small b) = false := by
   simp only [small, ← Bool.decide_and, decide_eq_false_iff_not]; exact hab
  clear h hab
  go_enter Tryz.func101, Tryz.ntmps101
  go_wp2_with fail;refine (is_two a b _).mono ?_;rintro e w1 ⟨rfl, rfl⟩;rw [e1];go_wp2_with fail
  go_ret2
  exact ⟨rfl, ((Below.refl _ _).alloc (by simp) _)⟩
def plusE (a b : Int) : Int × Int := if a ≤ 4611686018427387904 ∧ b ≤ 4611686018427387904 ∧ a + b ≤ 4611686018427387904 then (a + b, 0) else (0, 6)
theorem add_any (a b : Int) (w : World) (ha : 0 ≤ a) (hb : 0 ≤ b) :
  Calls Tryz.prog 101 #[.int .u64 a, .int .u64 b] w fun e w' => e = .returned (.tuple #[.int .u64 (plusE a b).1, .int .i64 (plusE a b).2]) ∧ Below w.heap.size w w' := by
 unfold plusE;split
 ·rename_i h; exact add_ok a b w ha hb h.1 h.2.1 h.2.2
 ·rename_i h; exact add_no a b w ha hb h
theorem radd_any (a b : Int) (w : World) (ha : 0 ≤ a) (hb : 0 ≤ b) :
  Calls Tryz.prog 38 #[.int .u64 a, .int .u64 b] w fun e w' => e = .returned (.tuple #[.int .u64 (plusE a b).1, .int .i64 (plusE a b).2]) ∧ w = w' := by
 unfold plusE;by_cases h1 : a ≤ 4611686018427387904
 ·by_cases h2 : b ≤ 4611686018427387904
  ·by_cases h3 : a + b ≤ 4611686018427387904
   ·rw [if_pos ⟨h1, h2, h3⟩]
    go_enter Tryz.func38, Tryz.ntmps38
    go_wp2_with fail
    go_ret2
    exact ⟨rfl, rfl⟩
   ·rw [if_neg (fun x => h3 x.2.2)]
    go_enter Tryz.func38, Tryz.ntmps38
    go_wp2_with fail
    go_ret2
    exact ⟨rfl, rfl⟩
  ·rw [if_neg (fun x => h2 x.2.1)]
   go_enter Tryz.func38, Tryz.ntmps38
   go_wp2_with fail
   go_ret2
   exact ⟨rfl, rfl⟩
 ·rw [if_neg (fun x => h1 x.1)]
  go_enter Tryz.func38, Tryz.ntmps38
  go_wp2_with fail
  go_ret2
  exact ⟨rfl, rfl⟩
def allE (s : Int) : List Int → Int × Int
 | [] => (s, 0)
 | x :: r => if (plusE s x).2 = 0 then allE (plusE s x).1 r else (0, (plusE s x).2)
theorem plusE_range (a b : Int) (ha : 0 ≤ a) (hb : 0 ≤ b) : 0 ≤ (plusE a b).1 ∧ (plusE a b).1 ≤ 4611686018427387904 ∧ ((plusE a b).2 = 0 ∨ (plusE a b).2 = 6) := by
 unfold plusE; split <;> simp <;> omega
theorem allE_drop (s : Int) (zs : List Int) (k : Nat) (h : k < zs.length) : allE s (zs.drop k) = if (plusE s (zs[k]?.getD 0)).2 = 0 then allE (plusE s (zs[k]?.getD 0)).1 (zs.drop (k+1)) else (0, (plusE s (zs[k]?.getD 0)).2) := by
 rw [List.drop_eq_getElem_cons h, allE]; simp [h]
theorem allE_range (zs : List Int) : ∀ (s : Int) (_ : ∀ z ∈ zs, 0 ≤ z) (_ : 0 ≤ s) (_ : s ≤ 4611686018427387904), 0 ≤ (allE s zs).2 ∧ (allE s zs).2 ≤ 6 := by
 induction zs with
 | nil => intro s _ _ _; simp [allE]
 | cons z zs ih =>
  intro s hz h0 h1;have hr := plusE_range s z h0 (hz z (by simp));rw [allE];split
  ·exact ih _ (fun x hx => hz x (by simp [hx])) hr.1 hr.2.1
  ·simp; omega
theorem ret_pair {k1 k2 : IntKind} {a b c d : Int} (h : a = c) (h' : b = d) : Ending.returned (.tuple #[.int k1 a, .int k2 b]) = .returned (.tuple #[.int k1 c, .int k2 d]) := by rw [h, h']
theorem all_any (A : Option Addr) (n cap : Nat) (zs : List Int) (w : World) (hs : Sl w w.heap.size 1 A n (zs.map (Value.int .u64))) (hn : n ≤ 9223372036854775807) (hz : ∀ z ∈ zs, 0 ≤ z) :
  Calls Tryz.prog 83 #[.slice A n cap] w fun e w' => e = .returned (.tuple #[.int .u64 (allE 0 zs).1, .int .i64 (allE 0 zs).2]) ∧ Below w.heap.size w w' := by
 have hl := hs.len;simp only [List.length_map] at hl;have HS := kp hs; clear hs;have HZ := kp hz; clear hz;have HL := kp hl; clear hl
 go_enter Tryz.func83, Tryz.ntmps83
 go_wp2
 go_loopw [4, 11] (fun s i wr => ∃ k : Nat, ∃ t : Int, k ≤ n ∧ i = .int .i64 k ∧ s = .int .u64 t ∧ 0 ≤ t ∧ t ≤ 4611686018427387904 ∧ allE 0 zs = allE t (zs.drop k) ∧ Below w.heap.size w wr) (fun _ i _ => n - (intOf i).toNat)
 case atStart => exact ⟨0, 0, Nat.zero_le _, rfl, rfl, by omega, by omega, rfl, Below.refl _ _⟩
 case round =>
  obtain ⟨k, t, hk, rfl, rfl, ht0, ht1, hall, hbw⟩ := hrel;have HA := kp hall; clear hall;have HB := kp hbw; clear hbw;by_cases hlt : k < n
  ·obtain ⟨b, off, u, rfl, hb, hu, hc⟩ := (HS.o.below HB.o).at_ hlt;have hd := allE_drop t zs k (by have := HL.o; omega)
   obtain ⟨z, hz', rfl⟩ : ∃ z, zs[k]? = some z ∧ u = .int .u64 z := by
    rw [List.getElem?_map] at hu;obtain ⟨z, h1, h2⟩ := Option.map_eq_some_iff.1 hu;exact ⟨z, h1, h2.symm⟩
   have hz0 : 0 ≤ z := HZ.o z (List.mem_of_getElem? hz');rw [hz'] at hd;simp only [Option.getD_some] at hd;have HD := kp hd; clear hd;clear hu hz';have hr := plusE_range t z ht0 hz0;by_cases h0 : (plusE t z).2 = 0
   ·have hadd := add_any t z wr ht0 hz0;generalize plusE t z = p at *;obtain ⟨p1, p2⟩ := p;simp only at h0 hr hadd;subst h0;obtain ⟨hr0, hr1, -⟩ := hr;have HADD := kp hadd; clear hadd;go_wp2_with fail;refine HADD.o.mono ?_;rintro e w1 ⟨rfl, hb1⟩;have HB1 := kp hb1; clear hb1;go_wp2_with fail;go_roundw
    case rel => exact ⟨k + 1, p1, by omega, by go_num, rfl, hr0, hr1, by rw [HA.o, HD.o]; simp, HB.o.trans (HB1.o.mono HB.o.size)⟩
    case measure => simp [intOf]; omega
   ·have hadd := add_any t z wr ht0 hz0;generalize plusE t z = p at *;obtain ⟨p1, p2⟩ := p;simp only at h0 hr hadd;have h6 : p2 = 6 := by omega
    subst h6;have HADD := kp hadd; clear hadd;clear hr h0;go_wp2_with fail;refine HADD.o.mono ?_;rintro e w1 ⟨rfl, hb1⟩;have HB1 := kp hb1; clear hb1;go_wp2_with fail
    go_ret2
    have hfin : allE 0 zs = (0, 6) := by rw [HA.o, HD.o, if_neg (by omega)]
    exact ⟨ret_pair (by rw [hfin]) (by rw [hfin]), HB.o.trans (HB1.o.mono HB.o.size)⟩
  ·go_wp2_with fail
   go_ret2
   have hfin : allE 0 zs = (t, 0) := by rw [HA.o, List.drop_eq_nil_of_le (by have := HL.o; omega)]; rfl
   exact ⟨ret_pair (by rw [hfin]) (by rw [hfin]), HB.o⟩
theorem rall_any (A : Option Addr) (n cap : Nat) (zs : List Int) (w : World) (hs : Sl w w.heap.size 1 A n (zs.map (Value.int .u64))) (hn : n ≤ 9223372036854775807) (hz : ∀ z ∈ zs, 0 ≤ z) :
  Calls Tryz.prog 10 #[.slice A n cap] w fun e w' => e = .returned (.tuple #[.int .u64 (allE 0 zs).1, .int .i64 (allE 0 zs).2]) ∧ Below w.heap.size w w' := by
 have hl := hs.len;simp only [List.length_map] at hl;have HS := kp hs; clear hs;have HZ := kp hz; clear hz;have HL := kp hl; clear hl
 go_enter Tryz.func10, Tryz.ntmps10
 go_wp2
 go_loopw [4, 5] (fun s i wr => ∃ k : Nat, ∃ t : Int, k ≤ n ∧ i = .int .i64 k ∧ s = .int .u64 t ∧ 0 ≤ t ∧ t ≤ 4611686018427387904 ∧ allE 0 zs = allE t (zs.drop k) ∧ wr = w) (fun _ i _ => n - (intOf i).toNat)
 case atStart => exact ⟨0, 0, Nat.zero_le _, rfl, rfl, by omega, by omega, rfl, rfl⟩
 case round =>
  obtain ⟨k, t, hk, rfl, rfl, ht0, ht1, hall, rfl⟩ := hrel;have HA := kp hall; clear hall;by_cases hlt : k < n
  ·obtain ⟨b, off, u, rfl, hb, hu, hc⟩ := HS.o.at_ hlt;have hd := allE_drop t zs k (by have := HL.o; omega)
   obtain ⟨z, hz', rfl⟩ : ∃ z, zs[k]? = some z ∧ u = .int .u64 z := by
    rw [List.getElem?_map] at hu;obtain ⟨z, h1, h2⟩ := Option.map_eq_some_iff.1 hu;exact ⟨z, h1, h2.symm⟩
   have hz0 : 0 ≤ z := HZ.o z (List.mem_of_getElem? hz');rw [hz'] at hd;simp only [Option.getD_some] at hd;have HD := kp hd; clear hd;clear hu hz';have hr := plusE_range t z ht0 hz0;by_cases h0 : (plusE t z).2 = 0
   ·have hadd := radd_any t z wr ht0 hz0;generalize plusE t z = p at *;obtain ⟨p1, p2⟩ := p;simp only at h0 hr hadd;subst h0;obtain ⟨hr0, hr1, -⟩ := hr;have HADD := kp hadd; clear hadd;go_wp2_with fail;refine HADD.o.mono ?_;rintro e w1 ⟨rfl, rfl⟩;go_wp2_with fail;go_roundw
    case rel => exact ⟨k + 1, p1, by omega, by go_num, rfl, hr0, hr1, by rw [HA.o, HD.o]; simp, trivial⟩
    case measure => simp [intOf]; omega
   ·have hadd := radd_any t z wr ht0 hz0;generalize plusE t z = p at *;obtain ⟨p1, p2⟩ := p;simp only at h0 hr hadd;have h6 : p2 = 6 := by omega
    subst h6;have HADD := kp hadd; clear hadd;clear hr h0;go_wp2_with fail;refine HADD.o.mono ?_;rintro e w1 ⟨rfl, rfl⟩;go_wp2_with fail
    go_ret2
    have hfin : allE 0 zs = (0, 6) := by rw [HA.o, HD.o, if_neg (by omega)]
    exact ⟨ret_pair (by rw [hfin]) (by rw [hfin]), Below.refl _ _⟩
  ·go_wp2_with fail
   go_ret2
   have hfin : allE 0 zs = (t, 0) := by rw [HA.o, List.drop_eq_nil_of_le (by have := HL.o; omega)]; rfl
   exact ⟨ret_pair (by rw [hfin]) (by rw [hfin]), Below.refl _ _⟩
theorem info_us : (Tryz.prog.info? 24).map (fun i => (i.zero, i.size, i.bytes)) = some (some (.int .u64 0), 1, 8) := by kernel_rfl
theorem el_us : ElemT Tryz.prog 59 24 1 8 := elemT Tryz.underlying59 info_us rfl (by omega)
structure Inp where
 tx : List UInt8
 index : Int
 amount : Int
 secret : List UInt8
structure Outp where
 owner : List UInt8
 amount : Int
structure Txn where
 ins : List Inp
 outs : List Outp
 fee : Int
 expiry : Int
def Inp.ok (i : Inp) : Prop := i.tx.length = 32 ∧ I64 i.index ∧ U64 i.amount
def Outp.ok (o : Outp) : Prop := o.owner.length = 32 ∧ U64 o.amount
def Txn.ok (t : Txn) : Prop := (∀ i ∈ t.ins, i.ok) ∧ (∀ o ∈ t.outs, o.ok) ∧ U64 t.fee ∧ I64 t.expiry
def noTxn : Txn := ⟨[], [], 0, 0⟩
theorem noTxn_ok : noTxn.ok := by simp [noTxn, Txn.ok, I64, U64]
def Inp.pt (i : Inp) : List UInt8 × Int := (i.tx, i.index)
def longI (i : Inp) : Bool := decide (64 < i.secret.length) || !inB i.index 0 15
def shortT (t : Txn) : Bool := inB t.ins.length 1 16 && inB t.outs.length 1 16 && inB t.expiry 0 1099511627776
def longT (t : Txn) : Bool := !shortT t || t.ins.any longI
def twiceT (t : Txn) : Bool := !decide ((t.ins.map Inp.pt).Nodup)
def zeroT (t : Txn) : Bool := (t.ins.map Inp.amount).contains 0 || (t.outs.map Outp.amount).contains 0
def checkT (t : Txn) : Int :=
 if longT t = true then 4 else if twiceT t = true then 7 else if zeroT t = true then 8
 else if (allE 0 (t.ins.map Inp.amount)).2 ≠ 0 then (allE 0 (t.ins.map Inp.amount)).2
 else if (allE 0 (t.outs.map Outp.amount ++ [t.fee])).2 ≠ 0 then (allE 0 (t.outs.map Outp.amount ++ [t.fee])).2
 else if (allE 0 (t.ins.map Inp.amount)).1 ≠ (allE 0 (t.outs.map Outp.amount ++ [t.fee])).1 then 9 else 0
def putI (i : Inp) : List UInt8 := i.tx ++ numB i.index.toNat ++ numB i.amount.toNat ++ numB i.secret.length ++ i.secret
def putO (o : Outp) : List UInt8 := o.owner ++ numB o.amount.toNat
def putTB (t : Txn) : List UInt8 := numB t.ins.length ++ t.ins.flatMap putI ++ numB t.outs.length ++ t.outs.flatMap putO ++ numB t.fee.toNat ++ numB t.expiry.toNat
def tformB (t : Txn) : List UInt8 := if checkT t = 0 then putTB t else []
def lookI (l : List UInt8) : Rd Inp := match takeR 32 l with
 | .error x => .error x
 | .ok (t, l1) => match numR 15 l1 with
  | .error x => .error x
  | .ok (n, l2) => match numR 18446744073709551615 l2 with
   | .error x => .error x
   | .ok (a, l3) => match textR 64 l3 with
    | .error x => .error x
    | .ok (s, l4) => .ok (⟨t, (n : Int), (a : Int), s⟩, l4)
def lookO (l : List UInt8) : Rd Outp := match takeR 32 l with
 | .error x => .error x
 | .ok (t, l1) => match numR 18446744073709551615 l1 with
  | .error x => .error x
  | .ok (a, l2) => .ok (⟨t, (a : Int)⟩, l2)
def lookN {α : Type} (f : List UInt8 → Rd α) : Nat → List UInt8 → Rd (List α)
 | 0, l => .ok ([], l)
 | n + 1, l => match f l with
  | .error x => .error x
  | .ok (a, l1) => match lookN f n l1 with
   | .error x => .error x
   | .ok (qs, l2) => .ok (a :: qs, l2)
def lookT (l : List UInt8) : Rd Txn := match numR 16 l with
 | .error x => .error x
 | .ok (n, l1) => match lookN lookI n l1 with
  | .error x => .error x
  | .ok (ins, l2) => match numR 16 l2 with
   | .error x => .error x
   | .ok (m, l3) => match lookN lookO m l3 with
    | .error x => .error x
    | .ok (outs, l4) => match numR 18446744073709551615 l4 with
     | .error x => .error x
     | .ok (fee, l5) => match numR 1099511627776 l5 with
      | .error x => .error x
      | .ok (ep, l6) => .ok (⟨ins, outs, (fee : Int), (ep : Int)⟩, l6)
def readT (l : List UInt8) : Except Nat Txn := match lookT l with
 | .error x => .error x
 | .ok (t, l6) => if l6 ≠ [] then .error 3 else if checkT t ≠ 0 then .error (checkT t).toNat else .ok t
def txnOf : Except Nat Txn → Txn
 | .error _ => noTxn
 | .ok t => t
theorem lookI_le {l t : List UInt8} {i : Inp} (h : lookI l = .ok (i, t)) : i.ok ∧ i.secret.length ≤ 64 ∧ t.length ≤ l.length := by
 unfold lookI at h;cases h1 : takeR 32 l with
 | error x => rw [h1] at h; simp at h
 | ok p =>
  obtain ⟨tx, l1⟩ := p;rw [h1] at h;simp only at h;cases h2 : numR 15 l1 with
  | error x => rw [h2] at h; simp at h
  | ok p =>
   obtain ⟨n, l2⟩ := p;rw [h2] at h;simp only at h;cases h3 : numR 18446744073709551615 l2 with
   | error x => rw [h3] at h; simp at h
   | ok p =>
    obtain ⟨a, l3⟩ := p;rw [h3] at h;simp only at h;cases h4 : textR 64 l3 with
    | error x => rw [h4] at h; simp at h
    | ok p =>
     obtain ⟨sc, l4⟩ := p;rw [h4] at h;simp only at h;injection h with h; injection h with e1 e2
     subst e1; subst e2;have q1 := takeR_le h1; have q2 := numR_le h2; have q3 := numR_le h3; have q4 := textR_le h4;refine ⟨⟨q1.1, ⟨?_, ?_⟩, ⟨?_, ?_⟩⟩, q4.1, ?_⟩ <;> (try simp only) <;> omega
theorem lookO_le {l t : List UInt8} {o : Outp} (h : lookO l = .ok (o, t)) : o.ok ∧ t.length ≤ l.length := by
 unfold lookO at h;cases h1 : takeR 32 l with
 | error x => rw [h1] at h; simp at h
 | ok p =>
  obtain ⟨tx, l1⟩ := p;rw [h1] at h;simp only at h;cases h2 : numR 18446744073709551615 l1 with
  | error x => rw [h2] at h; simp at h
  | ok p =>
   obtain ⟨a, l2⟩ := p;rw [h2] at h;simp only at h;injection h with h; injection h with e1 e2
   subst e1; subst e2;have q1 := takeR_le h1; have q2 := numR_le h2;refine ⟨⟨q1.1, ⟨?_, ?_⟩⟩, ?_⟩ <;> (try simp only) <;> omega
theorem lookN_le {α : Type} {f : List UInt8 → Rd α} {ok : α → Prop} (hf : ∀ l a t, f l = .ok (a, t) → ok a ∧ t.length ≤ l.length) : ∀ (n : Nat) (l : List UInt8) (qs : List α) (t : List UInt8), lookN f n l = .ok (qs, t) → qs.length = n ∧ (∀ a ∈ qs, ok a) ∧ t.length ≤ l.length
 | 0, l, qs, t, h => by
  unfold lookN at h;injection h with h; injection h with e1 e2
  subst e1; subst e2;exact ⟨rfl, (fun a ha => by cases ha), Nat.le_refl _⟩
 | n + 1, l, qs, t, h => by
  unfold lookN at h;split at h
  ·cases h
  ·rename_i a l1 h1;split at h
   ·cases h
   ·rename_i bs l2 h2;injection h with h; injection h with e1 e2
    subst e1; subst e2;obtain ⟨k1, k2⟩ := hf _ _ _ h1;obtain ⟨k3, k4, k5⟩ := lookN_le hf n _ _ _ h2;exact ⟨by simp [k3], fun b hb => by rcases List.mem_cons.1 hb with rfl | hb; exact k1; exact k4 b hb, by omega⟩
theorem lookN_snoc {α : Type} {f : List UInt8 → Rd α} : ∀ (n : Nat) (l : List UInt8), lookN f (n + 1) l = match lookN f n l with
  | .error x => .error x
  | .ok (qs, l1) => match f l1 with
   | .error x => .error x
   | .ok (a, l2) => .ok (qs ++ [a], l2)
 | 0, l => by
  simp only [lookN];cases f l with
  | error x => rfl
  | ok p => obtain ⟨a, l1⟩ := p; rfl
 | n + 1, l => by
  rw [lookN];cases h : f l with
  | error x => simp only [lookN, h]
  | ok p =>
   obtain ⟨a, l1⟩ := p;simp only [lookN_snoc n l1]
   conv => rhs; rw [lookN]
   simp only [h];cases h2 : lookN f n l1 with
   | error x => rfl
   | ok p =>
    obtain ⟨qs, l2⟩ := p;simp only;cases h3 : f l2 with
    | error x => rfl
    | ok p => obtain ⟨b, l3⟩ := p; rfl
theorem lookN_err {α : Type} {f : List UInt8 → Rd α} {l : List UInt8} {x : Nat} {k : Nat} (h : lookN f k l = .error x) : ∀ (d : Nat), lookN f (k + d) l = .error x
 | 0 => h
 | d + 1 => by rw [← Nat.add_assoc, lookN_snoc, lookN_err h d]
theorem lookT_ok {l t : List UInt8} {x : Txn} (h : lookT l = .ok (x, t)) : x.ok ∧ x.ins.length ≤ 16 ∧ x.outs.length ≤ 16 ∧ (∀ i ∈ x.ins, i.secret.length ≤ 64) ∧ t.length ≤ l.length := by
 unfold lookT at h;cases h1 : numR 16 l with
 | error x => rw [h1] at h; simp at h
 | ok p =>
  obtain ⟨n, l1⟩ := p;rw [h1] at h;simp only at h;cases h2 : lookN lookI n l1 with
  | error x => rw [h2] at h; simp at h
  | ok p =>
   obtain ⟨ins, l2⟩ := p;rw [h2] at h;simp only at h;cases h3 : numR 16 l2 with
   | error x => rw [h3] at h; simp at h
   | ok p =>
    obtain ⟨m, l3⟩ := p;rw [h3] at h;simp only at h;cases h4 : lookN lookO m l3 with
    | error x => rw [h4] at h; simp at h
    | ok p =>
     obtain ⟨outs, l4⟩ := p;rw [h4] at h;simp only at h;cases h5 : numR 18446744073709551615 l4 with
     | error x => rw [h5] at h; simp at h
     | ok p =>
      obtain ⟨fee, l5⟩ := p;rw [h5] at h;simp only at h;cases h6 : numR 1099511627776 l5 with
      | error x => rw [h6] at h; simp at h
      | ok p =>
       obtain ⟨ep, l6⟩ := p;rw [h6] at h;simp only at h;injection h with h; injection h with e1 e2
       subst e1; subst e2;have q1 := numR_le h1; have q3 := numR_le h3; have q5 := numR_le h5; have q6 := numR_le h6;obtain ⟨a1, a2, a3⟩ := lookN_le (ok := fun i => i.ok ∧ i.secret.length ≤ 64) (fun l a t h => by have := lookI_le h; exact ⟨⟨this.1, this.2.1⟩, this.2.2⟩) _ _ _ _ h2;obtain ⟨b1, b2, b3⟩ := lookN_le (ok := Outp.ok) (fun l a t h => lookO_le h) _ _ _ _ h4;refine ⟨⟨fun i hi => (a2 i hi).1, b2, ⟨?_, ?_⟩, ⟨?_, ?_⟩⟩, ?_, ?_, fun i hi => (a2 i hi).2, ?_⟩ <;> (try simp only) <;> omega
theorem lookI_put {i : Inp} (h : i.ok) (hs : i.secret.length ≤ 64) (hx : 0 ≤ i.index ∧ i.index ≤ 15) (t : List UInt8) : lookI (putI i ++ t) = .ok (i, t) := by
 obtain ⟨h1, h2, h3⟩ := h;obtain ⟨tx, ix, a, s⟩ := i;simp only at h1 h2 hs hx;obtain ⟨h3a, h3b⟩ := h3;simp only at h3a h3b;unfold putI lookI;simp only [List.append_assoc];rw [takeR_len h1];simp only;rw [numR_put (n := ix.toNat) (by omega) (by omega)];simp only;rw [numR_put (n := a.toNat) (by omega) (by omega)];simp only;rw [textR_put hs (by omega)];simp only [Int.toNat_of_nonneg hx.1, Int.toNat_of_nonneg h3a]
theorem lookO_put {o : Outp} (h : o.ok) (t : List UInt8) : lookO (putO o ++ t) = .ok (o, t) := by
 obtain ⟨h1, h2, h3⟩ := h;obtain ⟨tx, a⟩ := o;simp only at h1 h2 h3;unfold putO lookO;simp only [List.append_assoc];rw [takeR_len h1];simp only;rw [numR_put (n := a.toNat) (by omega) (by omega)];simp only [Int.toNat_of_nonneg h2]
theorem lookN_put {α : Type} {f : List UInt8 → Rd α} {p : α → List UInt8} : ∀ (qs : List α) (t : List UInt8), (∀ a ∈ qs, ∀ t, f (p a ++ t) = .ok (a, t)) → lookN f qs.length (qs.flatMap p ++ t) = .ok (qs, t)
 | [], t, _ => rfl
 | a :: qs, t, h => by
  rw [List.length_cons, lookN, List.flatMap_cons, List.append_assoc, h a (by simp)];simp only;rw [lookN_put qs t (fun b hb => h b (by simp [hb]))]
theorem short_of {t : Txn} (h : checkT t = 0) : shortT t = true ∧ ∀ i ∈ t.ins, i.secret.length ≤ 64 ∧ 0 ≤ i.index ∧ i.index ≤ 15 := by
 unfold checkT at h;split at h
 ·cases h
 ·rename_i hl;unfold longT at hl;simp only [Bool.or_eq_true, not_or, Bool.not_eq_true', Bool.not_eq_true, Bool.not_eq_false, List.any_eq_false] at hl;refine ⟨by simpa using hl.1, fun i hi => ?_⟩;have h9 := hl.2 i hi;simp [longI, inB] at h9;omega
theorem readT_put {t : Txn} (hk : t.ok) (h : checkT t = 0) : readT (putTB t) = .ok t := by
 obtain ⟨hs, hi⟩ := short_of h;unfold shortT at hs;simp only [Bool.and_eq_true, inB_iff] at hs;obtain ⟨k1, k2, ⟨k3, k4⟩, k5⟩ := hk
 have e : lookT (putTB t ++ []) = .ok (t, []) := by
  unfold putTB lookT;simp only [List.append_assoc];rw [numR_put (n := t.ins.length) (by omega) (by omega)];simp only;rw [lookN_put t.ins _ (fun i hm t' => lookI_put (k1 i hm) (hi i hm).1 (hi i hm).2 t')];simp only;rw [numR_put (n := t.outs.length) (by omega) (by omega)];simp only;rw [lookN_put t.outs _ (fun o hm t' => lookO_put (k2 o hm) t')];simp only;rw [numR_put (n := t.fee.toNat) (by omega) (by omega)];simp only;rw [numR_put (n := t.expiry.toNat) (by omega) (by omega)];simp only [Int.toNat_of_nonneg k3, Int.toNat_of_nonneg (show 0 ≤ t.expiry by omega)]
 rw [List.append_nil] at e;unfold readT;rw [e];simp [h]
structure Cmd where
 kind : Int
 tx : Txn
 certs : List Cer
 dest : Outp
 serial : Int
 epoch : Int
 id : List UInt8
def zId : List UInt8 := List.replicate 32 0
def noOutC : Outp := ⟨zId, 0⟩
def Cmd.ok (c : Cmd) : Prop := I64 c.kind ∧ c.tx.ok ∧ (∀ x ∈ c.certs, x.ok) ∧ c.dest.ok ∧ I64 c.serial ∧ I64 c.epoch ∧ c.id.length = 32
def noCmd : Cmd := ⟨0, noTxn, [], noOutC, 0, 0, zId⟩
def hasTxK (k : Int) : Bool := decide (2 ≤ k) && decide (k ≤ 6)
def hasCK (k : Int) : Bool := decide (4 ≤ k) && decide (k ≤ 6)
def usedC (c : Cmd) : Cmd where
 kind := c.kind
 tx := if hasTxK c.kind then c.tx else noTxn
 certs := if hasCK c.kind then c.certs else []
 dest := if c.kind = 1 then c.dest else noOutC
 serial := if c.kind = 1 then c.serial else 0
 epoch := if c.kind = 7 then c.epoch else 0
 id := if c.kind = 9 then c.id else zId
def badCert (x : Cer) : Bool := !rightE x.e || !rightH x.h || decide (32 < x.path.length)
def noTxB (t : Txn) : Bool := t.ins.isEmpty && t.outs.isEmpty && decide (t.fee = 0) && decide (t.expiry = 0)
def noOutB (o : Outp) : Bool := decide (o.owner = zId) && decide (o.amount = 0)
def wrong1 (c : Cmd) : Bool := (!decide (c.kind = 1) && (!decide (c.serial = 0) || !noOutB c.dest)) || (!decide (c.kind = 7) && !decide (c.epoch = 0)) || (!decide (c.kind = 9) && !decide (c.id = zId))
def wrong2 (c : Cmd) : Bool := (!hasTxK c.kind && !noTxB c.tx) || (!hasCK c.kind && !c.certs.isEmpty)
def wrong3 (c : Cmd) : Bool := decide (c.serial < 0) || decide (1099511627776 < c.serial) || decide (4611686018427387904 < c.dest.amount) || decide (c.epoch < 0) || decide (1099511627776 < c.epoch)
def checkC (c : Cmd) : Int :=
 if c.kind < 1 ∨ 9 < c.kind then 25 else if wrong1 c || wrong2 c || wrong3 c then 1 else if 16 < c.certs.length then 27
 else if hasTxK c.kind && !decide (checkT c.tx = 0) then checkT c.tx else if c.certs.any badCert then 16 else 0
def certText (x : Cer) : List UInt8 := numB (putCB x).length ++ putCB x
def txPart (c : Cmd) : List UInt8 := if hasTxK c.kind then numB (putTB c.tx).length ++ putTB c.tx else []
def certPart (c : Cmd) : List UInt8 := if hasCK c.kind then numB c.certs.length ++ c.certs.flatMap certText else []
def putCm (c : Cmd) : List UInt8 := numB c.kind.toNat ++ (if c.kind = 1 then numB c.serial.toNat ++ c.dest.owner ++ numB c.dest.amount.toNat else []) ++ txPart c ++ certPart c ++ (if c.kind = 7 then numB c.epoch.toNat else []) ++ (if c.kind = 9 then c.id else [])
def formC (c : Cmd) : List UInt8 × Int := if checkC c ≠ 0 then ([], checkC c) else if 8192 < (putCm c).length then ([], 4) else (putCm c, 0)
theorem noTxB_iff (t : Txn) : noTxB t = true ↔ t = noTxn := by
 rcases t with ⟨i, o, f, e⟩
 unfold noTxB noTxn;simp [and_assoc]
theorem noOutB_iff (o : Outp) : noOutB o = true ↔ o = noOutC := by
 rcases o with ⟨a, b⟩
 unfold noOutB noOutC;simp
theorem cmd_ext {a b : Cmd} : a = b ↔ a.kind = b.kind ∧ a.tx = b.tx ∧ a.certs = b.certs ∧ a.dest = b.dest ∧ a.serial = b.serial ∧ a.epoch = b.epoch ∧ a.id = b.id := by
 rcases a with ⟨a1, a2, a3, a4, a5, a6, a7⟩; rcases b with ⟨b1, b2, b3, b4, b5, b6, b7⟩
 simp
theorem used_iff (c : Cmd) : c = usedC c ↔ (wrong1 c || wrong2 c) = false := by
 rw [cmd_ext];have e1 := noTxB_iff c.tx; have e2 := noOutB_iff c.dest;unfold usedC wrong1 wrong2;simp only [Bool.or_eq_false_iff, Bool.and_eq_false_iff, Bool.not_eq_false', Bool.not_eq_eq_eq_not, Bool.not_false, decide_eq_true_eq, List.isEmpty_iff, e1, e2, true_and];constructor
 ·rintro ⟨h1, h2, h3, h4, h5, h6⟩;refine ⟨⟨⟨?_, ?_⟩, ?_⟩, ?_, ?_⟩
  ·by_cases h : c.kind = 1
   ·exact .inl h
   ·rw [if_neg h] at h3 h4; exact .inr ⟨h4, h3⟩
  ·by_cases h : c.kind = 7
   ·exact .inl h
   ·rw [if_neg h] at h5; exact .inr h5
  ·by_cases h : c.kind = 9
   ·exact .inl h
   ·rw [if_neg h] at h6; exact .inr h6
  ·by_cases h : hasTxK c.kind = true
   ·exact .inl h
   ·rw [if_neg h] at h1; exact .inr h1
  ·by_cases h : hasCK c.kind = true
   ·exact .inl h
   ·rw [if_neg h] at h2; exact .inr h2
 ·rintro ⟨⟨⟨h1, h2⟩, h3⟩, h4, h5⟩;refine ⟨?_, ?_, ?_, ?_, ?_, ?_⟩
  ·split
   ·rfl
   ·rename_i h; rcases h4 with h4 | h4; exact absurd h4 h; exact h4
  ·split
   ·rfl
   ·rename_i h; rcases h5 with h5 | h5; exact absurd h5 h; exact h5
  ·split
   ·rfl
   ·rename_i h; rcases h1 with h1 | h1; exact absurd h1 h; exact h1.2
  ·split
   ·rfl
   ·rename_i h; rcases h1 with h1 | h1; exact absurd h1 h; exact h1.1
  ·split
   ·rfl
   ·rename_i h; rcases h2 with h2 | h2; exact absurd h2 h; exact h2
  ·split
   ·rfl
   ·rename_i h; rcases h3 with h3 | h3; exact absurd h3 h; exact h3
open Go.RowKit Go.ChangeShapes Go.WideShapes
def inV (v : Value) (i : Inp) : List Value := i.tx.map B ++ [.int .i64 i.index, .int .u64 i.amount, v]
def outV (o : Outp) : List Value := o.owner.map B ++ [.int .u64 o.amount]
theorem inV_len {v : Value} {i : Inp} (h : i.ok) : (inV v i).length = 35 := by simp [inV, h.1]
theorem outV_len {o : Outp} (h : o.ok) : (outV o).length = 33 := by simp [outV, h.1]
theorem in_at {v : Value} {i : Inp} (h : i.ok) : (inV v i)[32]? = some (.int .i64 i.index) ∧ (inV v i)[33]? = some (.int .u64 i.amount) ∧ (inV v i)[34]? = some v := by
 have e0 : (i.tx.map B).length = 32 := by rw [List.length_map, h.1]
 refine ⟨?_, ?_, ?_⟩
 all_goals
  unfold inV;rw [List.getElem?_append_right (by omega), e0]
  rfl
theorem out_at {o : Outp} (h : o.ok) : (outV o)[32]? = some (.int .u64 o.amount) := by
 have e0 : (o.owner.map B).length = 32 := by rw [List.length_map, h.1]
 unfold outV;rw [List.getElem?_append_right (by omega), e0]; rfl
theorem cells_tin : Tryz.prog.cellsOf 58 = 35 := by kernel_rfl
theorem cells_tout : Tryz.prog.cellsOf 34 = 33 := by kernel_rfl
theorem cells_tx : Tryz.prog.cellsOf 26 = 4 := by kernel_rfl
theorem cells_stin : Tryz.prog.cellsOf 22 = 1 := by kernel_rfl
theorem cells_stout : Tryz.prog.cellsOf 23 = 1 := by kernel_rfl
theorem row_tin : RowT Tryz.prog 58 35 := ⟨_, Tryz.underlying58, by kernel_rfl, by kernel_rfl⟩
theorem row_tout : RowT Tryz.prog 34 33 := ⟨_, Tryz.underlying34, by kernel_rfl, by kernel_rfl⟩
theorem row_tx : RowT Tryz.prog 26 4 := ⟨_, Tryz.underlying26, by kernel_rfl, by kernel_rfl⟩
def InOK (w : World) (Bd : Nat) (p : Value × Inp) : Prop := (∃ A c, p.1 = .slice A p.2.secret.length c ∧ p.2.secret.length ≤ c ∧ Sl w Bd 1 A p.2.secret.length (p.2.secret.map B)) ∧ p.2.ok
def InsAt (w : World) (A : Option Addr) (n c : Nat) (l : List (Value × Inp)) : Prop := Sl w w.heap.size 35 A n (l.flatMap fun p => inV p.1 p.2) ∧ (∀ p ∈ l, InOK w w.heap.size p) ∧ l.length = n ∧ n ≤ c
def OutsAt (w : World) (A : Option Addr) (n c : Nat) (os : List Outp) : Prop := Sl w w.heap.size 33 A n (os.flatMap outV) ∧ (∀ o ∈ os, o.ok) ∧ os.length = n ∧ n ≤ c
theorem InsAt.grow {w w2 : World} {A : Option Addr} {n c : Nat} {l : List (Value × Inp)} (h : InsAt w A n c l) (k : Grow w w2) : InsAt w2 A n c l :=
 ⟨(h.1.below k).more k.size, fun p hp => by
   obtain ⟨⟨A', c', e, hc, hs⟩, ho⟩ := h.2.1 p hp
   exact ⟨⟨A', c', e, hc, (hs.below k).more k.size⟩, ho⟩, h.2.2⟩
theorem OutsAt.grow {w w2 : World} {A : Option Addr} {n c : Nat} {l : List Outp} (h : OutsAt w A n c l) (k : Grow w w2) : OutsAt w2 A n c l := ⟨(h.1.below k).more k.size, h.2⟩
section
variable {H : Type} {enc : TypeId × Value → H} {w : World} {r : Reach} {b0 base : Nat} {spare : Nat → Bool} {held : Bool}
theorem trod_point {fuel : Nat} {cs : List Value} {y : DataW H × List MemPlace} (hl0 : cs.length = 33) (hf : DataW.trod enc Tryz.prog w base spare held fuel 56 cs = some y) :
  ∃ (d : List UInt8) (z : Int), cs = d.map B ++ [.int .i64 z] ∧ d.length = 32 ∧ I64 z := by
 obtain ⟨xs, n, _, _, hl, hxs, hg⟩ := DataW.trod_struct Tryz.underlying56 hf;replace hg := fun i f h => hg i f h
 have hxs5 : xs.length = 2 := hxs;obtain ⟨y0, h0⟩ := got (hg 0 _ rfl) (by omega);obtain ⟨y1, h1⟩ := got (hg 1 _ rfl) (by omega);replace h0 : DataW.trod enc Tryz.prog w base spare held n 32 ((cs.drop 0).take (Tryz.prog.cellsOf 32)) = some y0 := h0;replace h1 : DataW.trod enc Tryz.prog w base spare held n 3 ((cs.drop 32).take (Tryz.prog.cellsOf 3)) = some y1 := h1;rw [cells_id] at h0;rw [cells_int] at h1;obtain ⟨d0, e0, l0⟩ := trod_bytes Tryz.underlying32 Tryz.underlying5 cells_u8 cells_id h0;obtain ⟨z1, e1, _, w1⟩ := DataW.trod_int Tryz.underlying3 h1;refine ⟨d0, z1, ?_, l0, i64_of w1⟩;have a2 : cs.drop 33 = [] := List.drop_of_length_le (by omega);have a1 := cut_eq e1 a2;have a0 := cut_eq e0 a1;rw [List.drop_zero] at a0;rw [a0]; simp
theorem trod_in {fuel : Nat} {cs : List Value} {y : DataW H × List MemPlace} (hl0 : cs.length = 35) (hf : DataW.trod enc Tryz.prog w base spare held fuel 58 cs = some y) :
  ∃ p : Value × Inp, cs = inV p.1 p.2 ∧ InOK w w.heap.size p := by
 obtain ⟨xs, n, _, _, hl, hxs, hg⟩ := DataW.trod_struct Tryz.underlying58 hf;replace hg := fun i f h => hg i f h
 have hxs5 : xs.length = 3 := hxs;obtain ⟨y0, h0⟩ := got (hg 0 _ rfl) (by omega);obtain ⟨y1, h1⟩ := got (hg 1 _ rfl) (by omega);obtain ⟨y2, h2⟩ := got (hg 2 _ rfl) (by omega);replace h0 : DataW.trod enc Tryz.prog w base spare held n 56 ((cs.drop 0).take (Tryz.prog.cellsOf 56)) = some y0 := h0;replace h1 : DataW.trod enc Tryz.prog w base spare held n 24 ((cs.drop 33).take (Tryz.prog.cellsOf 24)) = some y1 := h1;replace h2 : DataW.trod enc Tryz.prog w base spare held n 46 ((cs.drop 34).take (Tryz.prog.cellsOf 46)) = some y2 := h2;rw [cells_point] at h0;rw [cells_u64] at h1;rw [cells_su8] at h2;obtain ⟨d, z, e0, l0, hz⟩ := trod_point (by rw [List.length_take, List.length_drop]; omega) h0;obtain ⟨z1, e1, _, w1⟩ := DataW.trod_int Tryz.underlying24 h1;obtain ⟨A', n', c', bs, e2, hs, hn, _, hbl⟩ := open_u8s0 Tryz.underlying46 Tryz.underlying5 (by kernel_rfl) h2;refine ⟨(.slice A' n' c', ⟨d, z, z1, bs⟩), ?_, ⟨A', c', by rw [hbl], by rw [hbl]; exact hn, by rw [hbl]; exact hs⟩, l0, hz, u64_of w1⟩;have a3 : cs.drop 35 = [] := List.drop_of_length_le (by omega);have a2 := cut_eq e2 a3;have a1 := cut_eq e1 a2;have a0 := cut_eq e0 a1;rw [List.drop_zero] at a0;rw [a0]; simp [inV]
theorem trod_out {fuel : Nat} {cs : List Value} {y : DataW H × List MemPlace} (hl0 : cs.length = 33) (hf : DataW.trod enc Tryz.prog w base spare held fuel 34 cs = some y) :
  ∃ o : Outp, cs = outV o ∧ o.ok := by
 obtain ⟨xs, n, _, _, hl, hxs, hg⟩ := DataW.trod_struct Tryz.underlying34 hf;replace hg := fun i f h => hg i f h
 have hxs5 : xs.length = 2 := hxs;obtain ⟨y0, h0⟩ := got (hg 0 _ rfl) (by omega);obtain ⟨y1, h1⟩ := got (hg 1 _ rfl) (by omega);replace h0 : DataW.trod enc Tryz.prog w base spare held n 32 ((cs.drop 0).take (Tryz.prog.cellsOf 32)) = some y0 := h0;replace h1 : DataW.trod enc Tryz.prog w base spare held n 24 ((cs.drop 32).take (Tryz.prog.cellsOf 24)) = some y1 := h1;rw [cells_id] at h0;rw [cells_u64] at h1;obtain ⟨d0, e0, l0⟩ := trod_bytes Tryz.underlying32 Tryz.underlying5 cells_u8 cells_id h0;obtain ⟨z1, e1, _, w1⟩ := DataW.trod_int Tryz.underlying24 h1;refine ⟨⟨d0, z1⟩, ?_, l0, u64_of w1⟩;have a2 : cs.drop 33 = [] := List.drop_of_length_le (by omega);have a1 := cut_eq e1 a2;have a0 := cut_eq e0 a1;rw [List.drop_zero] at a0;rw [a0]; simp [outV]
instance : Inhabited Inp := ⟨⟨[], 0, 0, []⟩⟩
instance : Inhabited Outp := ⟨⟨[], 0⟩⟩
theorem open_tx {v : Value} {d : DataW H} {ps : List MemPlace} (hval : Value.okWide Tryz.prog w r b0 26 v) (h : DataW.Trod enc Tryz.prog w base spare held 26 v d ps) :
  ∃ A n c A2 n2 c2, ∃ l : List (Value × Inp), ∃ os : List Outp, ∃ fee ex : Int, v = .agg #[.slice A n c, .slice A2 n2 c2, .int .u64 fee, .int .i64 ex] ∧ InsAt w A n c l ∧ OutsAt w A2 n2 c2 os ∧ U64 fee ∧ I64 ex ∧ c ≤ maxLen ∧ c2 ≤ maxLen := by
 obtain ⟨cs, rfl, hsz⟩ := okWide_struct Tryz.underlying26 hval;obtain ⟨fuel, hf⟩ := h;rw [cells_tx] at hsz;obtain ⟨xs, n, _, _, hl, hxs, hg⟩ := DataW.trod_struct Tryz.underlying26 hf;replace hg := fun i f h => hg i f h
 have hxs5 : xs.length = 4 := hxs;obtain ⟨y0, h0⟩ := got (hg 0 _ rfl) (by omega);obtain ⟨y1, h1⟩ := got (hg 1 _ rfl) (by omega);obtain ⟨y2, h2⟩ := got (hg 2 _ rfl) (by omega);obtain ⟨y3, h3⟩ := got (hg 3 _ rfl) (by omega);replace h0 : DataW.trod enc Tryz.prog w base spare held n 22 ((cs.toList.drop 0).take (Tryz.prog.cellsOf 22)) = some y0 := h0;replace h1 : DataW.trod enc Tryz.prog w base spare held n 23 ((cs.toList.drop 1).take (Tryz.prog.cellsOf 23)) = some y1 := h1;replace h2 : DataW.trod enc Tryz.prog w base spare held n 24 ((cs.toList.drop 2).take (Tryz.prog.cellsOf 24)) = some y2 := h2;replace h3 : DataW.trod enc Tryz.prog w base spare held n 3 ((cs.toList.drop 3).take (Tryz.prog.cellsOf 3)) = some y3 := h3;rw [cells_stin] at h0;rw [cells_stout] at h1;rw [cells_u64] at h2;rw [cells_int] at h3;obtain ⟨A, m, c, l, e0, l0, m0, x0, s0, k0, _⟩ := open_list0 (fun p : Value × Inp => inV p.1 p.2) (fun p => InOK w w.heap.size p) Tryz.underlying22 cells_tin (show 0 < 35 by omega) (fun fuel cs y hl ht => trod_in hl ht) h0;obtain ⟨A2, m2, c2, os, e1, l1, m1, x1, s1, k1, _⟩ := open_list0 outV Outp.ok Tryz.underlying23 cells_tout (show 0 < 33 by omega) (fun fuel cs y hl ht => trod_out hl ht) h1;obtain ⟨z2, e2, _, w2⟩ := DataW.trod_int Tryz.underlying24 h2;obtain ⟨z3, e3, _, w3⟩ := DataW.trod_int Tryz.underlying3 h3;refine ⟨A, m, c, A2, m2, c2, l, os, z2, z3, ?_, ⟨s0, k0, l0, m0⟩, ⟨s1, k1, l1, m1⟩, u64_of w2, i64_of w3, x0, x1⟩;have hls : cs.toList.length = 4 := by simpa using hsz
 have : cs.toList = [.slice A m c, .slice A2 m2 c2, .int .u64 z2, .int .i64 z3] := by
  have a4 : cs.toList.drop 4 = [] := List.drop_of_length_le (by omega);have a3 := cut_eq e3 a4;have a2 := cut_eq e2 a3;have a1 := cut_eq e1 a2;have a0 := cut_eq e0 a1;rw [List.drop_zero] at a0;rw [a0]; simp
 rw [show cs = cs.toList.toArray from rfl, this]
end
end Go.Proofs.YtiijepimkgaccaaGreat

/- Contracts of field.Eye: Num, Text, Id. -/
import Derived.Test.YtiijepimkgaccaaGreatCommandLongRe15
import Derived.Laws.Cover3
set_option linter.unusedSimpArgs false
set_option linter.unusedVariables false
set_option maxRecDepth 100000
set_option maxHeartbeats 16000000
namespace Go.Proofs.YtiijepimkgaccaaGreat
open Go.RowKit Go.Shelf
theorem takeNum_nil {Lo Bd g most : Nat} (w : World) (h : EyeAt w Lo Bd g []) : Calls Tryz.prog 61 #[.pointer (some ⟨g, 0, none⟩), .int .u64 (most : Int)] w fun e w' => e = .panicked (brk 2) ∧ w = w' := by
 have H := kp h;clear h
 go_enter Tryz.func61, Tryz.ntmps61
 go_wp2_with fail;refine (take_no (n := 1) _ H.o (by simp)).mono ?_;rintro e w' ⟨rfl, rfl⟩;go_wp2_with fail;exact ⟨rfl, rfl, rfl⟩
theorem shl_u64 (v : Nat) (h : v * 256 ≤ 18446744073709551615) : IntKind.u64.wrap ((v : Int) * 2 ^ 8) = ((v * 256 : Nat) : Int) := by
 have e : (v : Int) * 2 ^ 8 = ((v * 256 : Nat) : Int) := by simp
 rw [e, IntKind.wrap_u64]; omega
theorem or_u64 (v c : Nat) (hc : c < 256) (hv : v * 256 + 255 ≤ 18446744073709551615) : bits BinOp.or IntKind.u64 ((v : Int) * 256) (c : Int) = ((v * 256 + c : Nat) : Int) := by
 have h : Op.intBits .or .u64 ((v : Int) * 256) (c : Int) = pure (.int .u64 (IntKind.u64.wrap (((BitVec.ofInt 64 ((v : Int) * 256) ||| BitVec.ofInt 64 (c : Int)).toNat : Nat) : Int))) := rfl;rw [intBits_or] at h;injection h with h
 injection h with _ h
 rw [h];have e1 : (BitVec.ofInt 64 ((v : Int) * 256)).toNat = 2 ^ 8 * v := by rw [BitVec.toNat_ofInt]; omega
 have e2 : (BitVec.ofInt 64 (c : Int)).toNat = c := by rw [BitVec.toNat_ofInt]; omega
 rw [BitVec.toNat_or, e1, e2, ← Nat.two_pow_add_eq_or_of_lt (by omega), IntKind.wrap_u64];omega
def EyeR {α : Type} (r : Rd α) (val : α → Value) (w w' : World) (Lo Bd g : Nat) (e : Ending) : Prop := w.grownBy w' (some g) ∧ match r with
  | .error x => e = .panicked (brk x)
  | .ok (v, l') => e = .returned (val v) ∧ EyeAt w' Lo Bd g l'
theorem EyeR.err {α : Type} {r : Rd α} {val : α → Value} {w w' : World} {Lo Bd g : Nat} {e : Ending} {x : Nat} (h : r = .error x) (he : e = .panicked (brk x)) (hg : w.grownBy w' (some g)) : EyeR r val w w' Lo Bd g e := by
 subst h; exact ⟨hg, he⟩
theorem EyeR.ok {α : Type} {r : Rd α} {val : α → Value} {w w' : World} {Lo Bd g : Nat} {e : Ending} {v : α} {l' : List UInt8} (h : r = .ok (v, l')) (he : e = .returned (val v)) (hE : EyeAt w' Lo Bd g l') (hg : w.grownBy w' (some g)) : EyeR r val w w' Lo Bd g e := by
 subst h; exact ⟨hg, he, hE⟩
theorem EyeR.get {α : Type} {r : Rd α} {val : α → Value} {w w' : World} {Lo Bd g : Nat} {e : Ending} (h : EyeR r val w w' Lo Bd g e) : w.grownBy w' (some g) ∧ ((∃ x, r = .error x ∧ e = .panicked (brk x)) ∨ (∃ v l', r = .ok (v, l') ∧ e = .returned (val v) ∧ EyeAt w' Lo Bd g l')) := by
 obtain ⟨h1, h2⟩ := h;refine ⟨h1, ?_⟩;cases r with
 | error x => exact .inl ⟨x, rfl, h2⟩
 | ok p => exact .inr ⟨p.1, p.2, rfl, h2.1, h2.2⟩
theorem takeNum_cons {Lo Bd g most : Nat} {k : UInt8} {t : List UInt8} (w : World) (h : EyeAt w Lo Bd g (k :: t)) : Calls Tryz.prog 61 #[.pointer (some ⟨g, 0, none⟩), .int .u64 (most : Int)] w fun e w' => EyeR (numR most (k :: t)) (fun v => .int .u64 (v : Int)) w w' Lo Bd g e := by
 have H := kp h;clear h;obtain ⟨kn, hkn⟩ := xe k.toNat;obtain ⟨res, hres⟩ := xe (numR most (k :: t));rw [← hres];simp only [numR] at hres;rw [← hkn] at hres;have HR := kp hres;have HK := kp hkn;have hk8 : kn < 256 := by rw [hkn]; exact k.toNat_lt
 clear hkn hres
 go_enter Tryz.func61, Tryz.ntmps61
 go_wp2_with fail;refine (take_yes (n := 1) _ H.o (by simp)).mono ?_;rintro e w1 ⟨A1, rfl, hr1, he1, hg1⟩;obtain ⟨b1, o1, u1, rfl, hb1, hu1, hc1⟩ := hr1.1.at_ (k := 0) (by simp)
 have hu2 : u1 = .int .u8 (kn : Int) := by
  simp at hu1;rw [← hu1, HK.o]; rfl
 subst hu2;rw [Nat.add_zero] at hc1;have HE1 := kq (EyeAt w1 Lo Bd g t) he1;have HG1 := kp hg1;clear hr1 he1 hg1 hu1 hb1 H;have qw : IntKind.i64.wrap (kn : Int) = (kn : Int) := IntWalk.i64_in _ (by omega);by_cases h8 : 8 < kn
 ·have d8 : decide ((8 : Int) < (kn : Int)) = true := by simp; omega
  go_wp2_with fail;refine (efail_any g 3 (by omega) _).mono ?_;rintro e w' ⟨rfl, rfl⟩;go_wp2_with fail;exact ⟨by first | trivial | rfl, .err (x := 3) (by rw [HR.o, if_pos h8]) rfl HG1.o⟩
 have d8 : decide ((8 : Int) < (kn : Int)) = false := by simp; omega
 by_cases ht : t.length < kn
 ·go_wp2_with fail;refine (take_no _ HE1.o ht).mono ?_;rintro e w' ⟨rfl, rfl⟩;go_wp2_with fail;exact ⟨by first | trivial | rfl, .err (x := 2) (by rw [HR.o, if_neg h8, if_pos ht]) rfl HG1.o⟩
 go_wp2_with fail;refine (take_yes _ HE1.o (Nat.le_of_not_lt ht)).mono ?_;rintro e w2 ⟨A2, rfl, hr2, he2, hg2⟩;obtain ⟨bs, hbs⟩ := xe (t.take kn);rw [← hbs] at hr2;have hbl : bs.length = kn := by rw [hbs, List.length_take]; omega
 have HBL := kp hbl;have HBS := kp hbs;have HR2 := kq (Sl w2 Bd 1 A2 kn (bs.map B)) (by rw [← hbl]; exact hr2.1);have HE2 := kp he2;have HG2 := kp (grownBy_trans HG1.o hg2);clear hr2 he2 hg2 hbl hbs hc1 HE1 HG1 qw d8;go_wp2_with fail;go_loopw [6, 22] (fun vv iv wq => ∃ j : Nat, j ≤ kn ∧ iv = .int .i64 j ∧ vv = .int .u64 ((valB (bs.take j) : Nat) : Int) ∧ wq = w2 ∧ Hid (0 < j → bs[0]? ≠ some 0)) (fun _ iv _ => kn - (intOf iv).toNat)
 case atStart => exact ⟨0, Nat.zero_le _, rfl, rfl, rfl, kp (fun h => by omega)⟩
 case round =>
  obtain ⟨j, hj, rfl, rfl, rfl, hz⟩ := hrel;by_cases hlt : j < kn
  ·obtain ⟨b2, o2, u2, rfl, hb2, hu2, hc2⟩ := HR2.o.at_ hlt;rw [List.getElem?_map] at hu2;obtain ⟨c, hcj, rfl⟩ := Option.map_eq_some_iff.1 hu2;obtain ⟨cn, hcn⟩ := xe c.toNat;have hc256 : cn < 256 := by rw [hcn]; exact c.toNat_lt
   have hc3 : wr.cell? ⟨b2, o2 + j, none⟩ = some (.int .u8 (cn : Int)) := by rw [hcn]; exact hc2
   have HC := kp hcj;have HCN := kp hcn;obtain ⟨v, hv⟩ := xe (valB (bs.take j));have HV := kp hv
   have hv64 : v * 256 + 255 ≤ 18446744073709551615 := by
    have := valB_lt 7 (bs.take j) (by rw [List.length_take]; omega);rw [← hv] at this; omega
   rw [← hv];clear hu2 hb2 hcj hc2 hcn hv;obtain ⟨p, hp⟩ : ∃ p, ((j : Int) == 0) = p := ⟨_, rfl⟩;obtain ⟨q, hq⟩ : ∃ q, ((cn : Int) == 0) = q := ⟨_, rfl⟩
   have HPQ := kp (show p = true ∧ q = true ↔ j = 0 ∧ c = 0 by
    rw [← hp, ← hq, beq_iff_eq, beq_iff_eq];have h1 := HCN.o;constructor
    ·rintro ⟨a, b⟩;exact ⟨by omega, UInt8.toNat_inj.1 (by show c.toNat = 0; omega)⟩
    ·rintro ⟨a, b⟩;subst b
     exact ⟨by omega, by rw [h1]; rfl⟩)
   have s1 := shl_u64 v (by omega);have s2 : IntKind.u64.wrap (cn : Int) = (cn : Int) := by rw [IntKind.wrap_u64]; omega
   cases p with
   | true =>
    cases q with
    | true =>
     go_wp2_with fail;refine (efail_any g 3 (by omega) _).mono ?_;rintro e w' ⟨rfl, rfl⟩;go_wp2_with fail;have hjc := HPQ.o.1 (by simp);refine ⟨by first | trivial | rfl, .err (x := 3) ?_ rfl HG2.o⟩;have h1 := HC.o;rw [hjc.1, hjc.2, HBS.o, List.getElem?_take, if_pos (by omega)] at h1;rw [HR.o, if_neg h8, if_neg ht, if_pos ⟨by omega, h1⟩]
    | false =>
     have hnz : ¬ (j = 0 ∧ c = 0) := fun h => by have := HPQ.o.2 h; simp at this
     have HST := kp (show bits BinOp.or IntKind.u64 ((v : Int) * 256) (cn : Int) = ((valB (bs.take (j + 1)) : Nat) : Int) by
      rw [or_u64 v cn hc256 hv64, take_snoc HC.o, valB_snoc, ← HV.o, HCN.o])
     have HZ := kp (show 0 < j + 1 → bs[0]? ≠ some 0 from fun _ h0 => by
      by_cases hj0 : j = 0
      ·have h1 := HC.o;rw [hj0] at h1;rw [h0] at h1;injection h1 with h1
       exact hnz ⟨hj0, h1.symm⟩
      ·exact hz.o (by omega) h0)
     clear hnz;go_wp2_with fail;go_roundw
     case rel => exact ⟨j + 1, by omega, by go_num, by rw [HST.o], by first | trivial | rfl, HZ⟩
     case measure => simp [intOf]; omega
   | false =>
    have hnz : ¬ (j = 0 ∧ c = 0) := fun h => by have := HPQ.o.2 h; simp at this
    have HST := kp (show bits BinOp.or IntKind.u64 ((v : Int) * 256) (cn : Int) = ((valB (bs.take (j + 1)) : Nat) : Int) by
     rw [or_u64 v cn hc256 hv64, take_snoc HC.o, valB_snoc, ← HV.o, HCN.o])
    have HZ := kp (show 0 < j + 1 → bs[0]? ≠ some 0 from fun _ h0 => by
     by_cases hj0 : j = 0
     ·have h1 := HC.o;rw [hj0] at h1;rw [h0] at h1;injection h1 with h1
      exact hnz ⟨hj0, h1.symm⟩
     ·exact hz.o (by omega) h0)
    clear hnz;go_wp2_with fail;go_roundw
    case rel => exact ⟨j + 1, by omega, by go_num, by rw [HST.o], by first | trivial | rfl, HZ⟩
    case measure => simp [intOf]; omega
  ·obtain rfl : j = kn := by omega
   have hall : bs.take j = bs := List.take_of_length_le (by rw [HBL.o]; omega);obtain ⟨v, hv⟩ := xe (valB (bs.take j));have HV := kq (v = valB (t.take j)) (by rw [hv, hall, HBS.o])
   have HNZ := kp (show ¬ (0 < j ∧ t[0]? = some 0) from fun h => by
    have h1 := hz.o h.1;rw [HBS.o, List.getElem?_take, if_pos h.1] at h1
    exact h1 h.2)
   rw [← hv];clear hv hall;by_cases hm : most < v
   ·have d1 : decide ((most : Int) < (v : Int)) = true := by simp; omega
    go_wp2_with fail;refine (efail_any g 5 (by omega) _).mono ?_;rintro e w' ⟨rfl, rfl⟩;go_wp2_with fail;exact ⟨by first | trivial | rfl, .err (x := 5) (by rw [HR.o, if_neg h8, if_neg ht, if_neg HNZ.o, ← HV.o, if_pos hm]) rfl HG2.o⟩
   ·have d1 : decide ((most : Int) < (v : Int)) = false := by simp; omega
    go_wp2_with fail;go_ret
    exact .ok (by rw [HR.o, if_neg h8, if_neg ht, if_neg HNZ.o, ← HV.o, if_neg hm]) rfl HE2.o HG2.o
theorem enum_any {Lo Bd g most : Nat} {l : List UInt8} (w : World) (h : EyeAt w Lo Bd g l) : Calls Tryz.prog 61 #[.pointer (some ⟨g, 0, none⟩), .int .u64 (most : Int)] w fun e w' => EyeR (numR most l) (fun v => .int .u64 (v : Int)) w w' Lo Bd g e := by
 cases l with
 | nil =>
  refine (takeNum_nil w h).mono ?_;rintro e w' ⟨rfl, rfl⟩;exact .err rfl rfl (grownBy_refl _ _)
 | cons k t => exact takeNum_cons w h
theorem row_id0 : RowT Tryz.prog 32 32 := ⟨_, Tryz.underlying32, by kernel_rfl, by kernel_rfl⟩
theorem run_arr32 (a : Option Addr) (w : World) : (Instr.arrayAt 32 (.slice a 32 32)).run Tryz.prog w = .ok (.pointer a) w := run_arrayAt w _ _ 32 a 32 32 Tryz.underlying32 (Nat.le_refl _)
theorem eid_any {Lo Bd g : Nat} {l : List UInt8} (w : World) (h : EyeAt w Lo Bd g l) : Calls Tryz.prog 63 #[.pointer (some ⟨g, 0, none⟩)] w fun e w' => EyeR (takeR 32 l) (fun d => .agg (d.map B).toArray) w w' Lo Bd g e := by
 have H := kp h;clear h;by_cases hn : l.length < 32
 ·go_enter Tryz.func63, Tryz.ntmps63
  go_wp2_with (with_reducible refine wal 2 zero_id ?_);intro w1 hb1 hbw1 hsz1;have HB1 := kp hbw1;have H1 := kp (H.o.grow hbw1);clear hb1 hbw1 hsz1;go_wp2_with fail;refine (take_no (n := 32) _ H1.o hn).mono ?_;rintro e w' ⟨rfl, rfl⟩;go_wp2_with fail;exact ⟨by first | trivial | rfl, .err (x := 2) (by unfold takeR; rw [if_neg (by omega)]) rfl (grown_of_below HB1.o _)⟩
 ·go_enter Tryz.func63, Tryz.ntmps63
  go_wp2_with (with_reducible refine wal 2 zero_id ?_);intro w1 hb1 hbw1 hsz1;have HB1 := kp hb1;have HBW1 := kp hbw1;have H1 := kp (H.o.grow hbw1);clear hb1 hbw1 hsz1;go_wp2_with fail;refine (take_yes (n := 32) _ H1.o (by omega)).mono ?_;rintro e w2 ⟨A2, rfl, hr2, he2, hg2⟩;have HR2 := kp hr2;have HE2 := kp he2;have HG2 := kp hg2;clear hr2 he2 hg2;have har := run_arr32 A2 w2;obtain ⟨b2, o2, rfl, _, hc2⟩ := HR2.o.1.2 (by rw [List.length_take]; omega);obtain ⟨ds, hds⟩ := xe ((l.take 32).map B);rw [← hds] at hc2;have HD := kp hds;have HC2 := kp hc2;have HL2 := kq (ds.length = 32) (by rw [hds, List.length_map, List.length_take]; omega);have HB2 := kp (HB1.o.grown HG2.o (fun e => by injection e with e; have := H.o.lt; omega));have HQ := kp (H.o.bd);have HOT := kq (∀ u ∈ ds, u.oneCell' = true) (by rw [hds]; exact all_bytes _);clear hc2 hds;go_wp2_with (with_reducible first | refine wlm 6 row_id HC2.o HL2.o ?_ | refine wsb row_id HB2.o rfl HL2.o HOT.o ?_);intro w3 hb3 hg3 hsz3;have HB3 := kp hb3;have HG3 := kq (w.grownBy w3 (some g)) (grownBy_new (grownBy_trans (grown_of_below HBW1.o _) HG2.o) hg3 (Nat.le_refl _));have HE3 := kp (HE2.o.off hg3 (.inr HQ.o.2));clear hb3 hg3 hsz3;go_wp2_with fail;refine ret_cell rfl row_id0 HB3.o rfl HL2.o rfl ?_;exact .ok (by unfold takeR; rw [if_pos (by omega)]) (by rw [HD.o]) HE3.o HG3.o
theorem etext_any {Lo Bd g most : Nat} {l : List UInt8} (w : World) (h : EyeAt w Lo Bd g l) (hm : most ≤ 1000000) : Calls Tryz.prog 64 #[.pointer (some ⟨g, 0, none⟩), .int .i64 (most : Int)] w fun e w' => w.grownBy w' (some g) ∧ ((∃ x, textR most l = .error x ∧ e = .panicked (brk x)) ∨
  (∃ bs l' A c, textR most l = .ok (bs, l') ∧ e = .returned (.slice A bs.length c) ∧ OwnAt w' w.heap.size A bs.length c (bs.map B) ∧ bs.length ≤ c ∧ EyeAt w' Lo Bd g l')) := by
 have H := kp h;clear h;have q1 : max (most : Int) 0 = (most : Int) := by omega
 have q2 : IntKind.u64.wrap (most : Int) = (most : Int) := conv_u64' (by omega);obtain ⟨tr, htr⟩ := xe (textR most l);rw [← htr];have HTR := kp htr;clear htr
 go_enter Tryz.func64, Tryz.ntmps64
 go_wp2_with fail;refine (enum_any w H.o).mono ?_;rintro e w1 hr;obtain ⟨hg1, ⟨x, he, rfl⟩ | ⟨v, l1, he, rfl, hE⟩⟩ := hr.get
 ·go_wp2_with fail;exact ⟨by first | trivial | rfl, hg1, .inl ⟨x, by rw [HTR.o]; unfold textR; rw [he], rfl⟩⟩
 ·have hv := numR_le he;have HE := kp hE;have HG := kp hg1;have HV := kp he;have hv1 := hv.1;have q3 : IntKind.i64.wrap (v : Int) = (v : Int) := IntWalk.i64_in _ (by omega);clear hE hg1 he hv hr;by_cases hl : l1.length < v
  ·go_wp2_with fail;refine (take_no _ HE.o hl).mono ?_;rintro e w' ⟨rfl, rfl⟩;go_wp2_with fail;exact ⟨by first | trivial | rfl, HG.o, .inl ⟨2, by rw [HTR.o]; unfold textR; rw [HV.o]; unfold takeR; simp only; rw [if_neg (by omega)], rfl⟩⟩
  ·go_wp2_with fail;refine (take_yes _ HE.o (Nat.le_of_not_lt hl)).mono ?_;rintro e w2 ⟨A2, rfl, hr2, he2, hg2⟩;have hbl : (l1.take v).length = v := by rw [List.length_take]; omega
   have HS2 := kq (Sl w2 w2.heap.size 1 A2 v ((l1.take v).map B)) (by have := hr2.sl; rwa [hbl] at this);have HE2 := kp he2;have HG2 := kp (grownBy_trans HG.o hg2);have HSZ := kp HG2.o.size;clear hr2 he2 hg2;go_wp2_with fail;refine (bclone_any A2 v v (l1.take v) _ HS2.o (by omega)).mono ?_;rintro e w3 ⟨A3, c3, rfl, ho, hc, hg⟩;go_wp2_with fail;go_ret
   refine ⟨grownBy_grow HG2.o hg, .inr ⟨l1.take v, l1.drop v, A3, c3, by rw [HTR.o]; unfold textR; rw [HV.o]; unfold takeR; simp only; rw [if_pos (by omega)], by rw [hbl]; rfl, ?_, by rw [hbl]; exact hc, HE2.o.grow hg⟩⟩;rw [hbl];exact own_base ho HSZ.o
theorem splice_length {L cs : List Value} {off n : Nat} (h : off + cs.length ≤ L.length) (hn : L.length = n) : (splice L off cs).length = n := by
 unfold splice; simp only [List.length_append, List.length_take, List.length_drop]; omega
def SzG (w : World) (n : Nat) : Prop := n ≤ w.heap.size
theorem SzG.grow {w w' : World} {n : Nat} (h : SzG w n) (k : Grow w w') : SzG w' n := Nat.le_trans h k.size
def nilS : Value := .slice none 0 0
theorem cert_cl {v : Value} (hv : v.oneCell' = true) {x : Cer} (h : x.ok) : Cl 137 (certV v x) := ⟨certV_len h, cert_one v hv x⟩
theorem entV_inj {a b : Ent} (ha : a.ok) (hb : b.ok) (h : entV a = entV b) : a = b := by
 obtain ⟨k, s, t, m, y, p⟩ := a; obtain ⟨k2, s2, t2, m2, y2, p2⟩ := b;simp only [entV, List.cons.injEq, Value.int.injEq, true_and] at h;obtain ⟨h1, h2, h3⟩ := h;have := List.append_inj h3 (by rw [List.length_map, List.length_map, show t.length = 32 from ha.2.2.1, show t2.length = 32 from hb.2.2.1]);obtain ⟨h4, h5⟩ := this;have h6 : t = t2 := map_B_injH h4;simp only [List.cons.injEq, Value.int.injEq, true_and, and_true] at h5;obtain ⟨h7, h8, h9⟩ := h5;subst h1 h2 h6 h7 h8 h9; rfl
theorem ent_eq {a b : Ent} (ha : a.ok) (hb : b.ok) : ∃ r : Bool, (r = true ↔ a = b) ∧ ∀ w, (Op.equalIn 10000 38 (.agg (entV a).toArray) (.agg (entV b).toArray)).run Tryz.prog w = .ok r w := by
 obtain ⟨n4, hn4⟩ := types_3;obtain ⟨r, hr, hq⟩ := eql_deep key_entry (m := 3) (by omega) (by kernel_rfl) (by kernel_rfl) (by kernel_rfl) (entV a) (entV b) (by rw [entV_length ha, cells_entry]) (by rw [entV_length hb, cells_entry]) (by rw [hn4]; exact lits_ent (n4 + 1) _ ha) (by rw [hn4]; exact lits_ent (n4 + 1) _ hb);exact ⟨r, hr.trans ⟨fun h => entV_inj ha hb h, fun h => by rw [h]⟩, hq⟩
theorem hdr_eq {a b : Hdr} (ha : a.ok) (hb : b.ok) : ∃ r : Bool, (r = true ↔ a = b) ∧ ∀ w, (Op.equalIn 10000 41 (.agg (hdrV a).toArray) (.agg (hdrV b).toArray)).run Tryz.prog w = .ok r w := by
 obtain ⟨n4, hn4⟩ := types_3;obtain ⟨r, hr, hq⟩ := eql_deep key_header (m := 3) (by omega) (by kernel_rfl) (by kernel_rfl) (by kernel_rfl) (hdrV a) (hdrV b) (by rw [hdrV_length ha, cells_header]) (by rw [hdrV_length hb, cells_header]) (by rw [hn4]; exact lits_hdr (n4 + 1) _ ha) (by rw [hn4]; exact lits_hdr (n4 + 1) _ hb);exact ⟨r, hr.trans ⟨fun h => hdrV_inj ha hb h, fun h => by rw [h]⟩, hq⟩
theorem cer_eq {x y : Cer} {re rp rh rt : Bool} (h1 : re = true ↔ x.e = y.e) (h2 : decide (x.path = y.path) = rp) (h3 : rh = true ↔ x.h = y.h) (h4 : (x.tag == y.tag) = rt) : decide (x = y) = (re && rp && rh && rt) := by
 rw [Bool.eq_iff_iff, decide_eq_true_iff];simp only [Bool.and_eq_true, h1, h3, ← h2, ← h4, decide_eq_true_iff, beq_iff_eq];cases x; cases y; simp [and_assoc]
theorem eqids_any {res : Bool} {A A2 : Option Addr} {n c n2 c2 : Nat} {ds es : List (List UInt8)} (hres : decide (ds = es) = res) (w : World) (hn : n ≤ 1000000) (h1 : Ids w A n c ds) (h2 : Ids w A2 n2 c2 es) :
  Calls Tryz.prog 74 #[.slice A n c, .slice A2 n2 c2] w fun e w' => e = .returned (.bool res) ∧ Below w.heap.size w w' := by
 have H1 := kp h1; have H2 := kp h2;have HL1 := kp h1.2.1; have HL2 := kp h2.2.1;have HRES := kp hres;clear h1 h2 hres;by_cases hl : n = n2
 ·subst hl
  go_enter Tryz.func74, Tryz.ntmps74
  go_wp2_with fail;go_loopw [13] (fun i wr => ∃ k : Nat, k ≤ n ∧ i = .int .i64 k ∧ Hid (ds.take k = es.take k) ∧ Hid (Below w.heap.size w wr)) (fun i _ => n - (intOf i).toNat)
  case atStart => exact ⟨0, by omega, rfl, kp rfl, kp (Below.refl _ _)⟩
  case round =>
   obtain ⟨k, hk, rfl, hup, hbw⟩ := hrel;by_cases hlt : k < n
   ·have HB := hbw;have H1A := kp (H1.o.up HB.o);have H2A := kp (H2.o.up HB.o);try go_wp2_with fail
    repeat' (first | (with_reducible refine wpp (id := 6) Grow [0,0,0,2,0,0,0,2,0] (.get 0 (.get 1 (.get 2 (.get 3 (.get 4 (.get 5 (.get 6 (.get 7 (.get 8 .done))))))))) Grow.refl Grow.trans ?_) | go_values | go_skip | go_guarded | go_step | go_upon | go_back)
    intro w_ hd_;have y_ := hd_.grow;replace HB := kp (HB.o.grow' y_);replace H1A := kp (H1A.o.grow y_);replace H2A := kp (H2A.o.grow y_);clear y_ hd_;obtain ⟨b1, o1, d, rfl, hd, hd32, hb1, hc1⟩ := H1A.o.key hlt;obtain ⟨b2, o2, d2, rfl, hd2, he32, hb2, hc2⟩ := H2A.o.key hlt;obtain ⟨vs, hvs⟩ := xe (d.map B);obtain ⟨us, hus⟩ := xe (d2.map B);obtain ⟨q, hq⟩ : ∃ q, (d == d2) = q := ⟨_, rfl⟩;have HV := kq (Dig vs d) ⟨hvs, hd32⟩;have HU := kq (Dig us d2) ⟨hus, he32⟩;rw [← hvs] at hc1;rw [← hus] at hc2;have HC1 := kp hc1; have HC2 := kp hc2;have HB1 := kp hb1; have HB2 := kp hb2;have HD1 := kp hd; have HD2 := kp hd2;have hne := HV.o.neq_b HU.o hq;have HQ := kp hq;clear hvs hus hc1 hc2 hb1 hb2 hd hd2 hd32 he32 hq;repeat ((first | refine plc (fun K hK => ?_) | refine pls (fun K hK => ?_) | refine psa (fun K hK => ?_)); go_simp; refine hK _ _ ?_; clear hK K)
    refine pl_loadm rfl (by decide) (by exact wanted_none rfl) rfl row_id HC1.o HB1.o (by first | rfl | (go_simp; done) | rfl) HV.o.len (fun K hK => ?_);go_simp;refine hK _ _ ?_;clear hK K;repeat ((first | refine plc (fun K hK => ?_) | refine pls (fun K hK => ?_) | refine psa (fun K hK => ?_)); go_simp; refine hK _ _ ?_; clear hK K)
    refine pl_loadm rfl (by decide) (by exact wanted_none rfl) rfl row_id HC2.o HB2.o (by first | rfl | (go_simp; done) | rfl) HU.o.len (fun K hK => ?_);go_simp;refine hK _ _ ?_;clear hK K;repeat ((first | refine plc (fun K hK => ?_) | refine pls (fun K hK => ?_) | refine psa (fun K hK => ?_)); go_simp; refine hK _ _ ?_; clear hK K)
    refine pl_done ?_;cases q with
    | true =>
     have HE := kq (d = d2) (by simpa using HQ.o);go_wp2_with fail;go_roundw
     case rel => exact ⟨k + 1, by omega, by go_num, kp (by rw [List.take_add_one, List.take_add_one, HD1.o, HD2.o, hup.o, HE.o]), HB⟩
     case measure => simp [intOf]; omega
    | false =>
     have HF := kp (show res = false by
      rw [← HRES.o, decide_eq_false_iff_not];intro h;have h1 := HD1.o; have h2 := HD2.o;rw [h, h2] at h1;have h3 := Option.some.inj h1;have h4 := HQ.o
      rw [h3] at h4; simp at h4)
     go_wp2_with fail;go_ret
     exact ⟨by rw [HF.o]; rfl, HB.o⟩
   ·have HF := kp (show res = true by
      rw [← HRES.o, decide_eq_true_iff];have h := hup.o;rw [List.take_of_length_le (by rw [HL1.o]; omega), List.take_of_length_le (by rw [HL2.o]; omega)] at h
      exact h)
    go_wp2_with fail;go_ret
    exact ⟨by rw [HF.o]; rfl, hbw.o⟩
 ·have g1 : ((n : Int) == (n2 : Int)) = false := by simp; omega
  have g2 : ((n : Int) != (n2 : Int)) = true := by simp; omega
  have g3 : (n == n2) = false := by simp; omega
  have g4 : (n != n2) = true := by simp; omega
  have g5 : decide (n = n2) = false := by simp; omega
  have HF := kq (res = false) (by rw [← HRES.o, decide_eq_false_iff_not]; intro h; have h1 := HL1.o; have h2 := HL2.o; rw [h, h2] at h1; exact hl h1.symm);clear hl
  go_enter Tryz.func74, Tryz.ntmps74
  go_wp2_with fail;go_ret
  exact ⟨by rw [HF.o]; rfl, Below.refl _ _⟩
theorem csame_any {res : Bool} {A A2 : Option Addr} {n c n2 c2 : Nat} {x y : Cer} (hres : decide (x = y) = res) (w : World) (hx : x.ok) (hy : y.ok) (hn : n ≤ 1000000) (h1 : Ids w A n c x.path) (h2 : Ids w A2 n2 c2 y.path) :
  Calls Tryz.prog 41 #[.agg (certV (.slice A n c) x).toArray, .agg (certV (.slice A2 n2 c2) y).toArray] w fun e w' => e = .returned (.bool res) ∧ Below w.heap.size w w' := by
 have H1 := kp h1; have H2 := kp h2;have HXO := kp hx; have HYO := kp hy;obtain ⟨re, he1, he2⟩ := ent_eq hx.1 hy.1;obtain ⟨rh, hh1, hh2⟩ := hdr_eq hx.2.2.1 hy.2.2.1;obtain ⟨rp, hp⟩ : ∃ q, decide (x.path = y.path) = q := ⟨_, rfl⟩;obtain ⟨rt, hq⟩ : ∃ q, (x.tag == y.tag) = q := ⟨_, rfl⟩;have ht := (dig_map hx.2.2.2).eql_b (dig_map hy.2.2.2) hq;have HRES := kq (res = (re && rp && rh && rt)) (by rw [← hres]; exact cer_eq he1 hp hh1 hq);have HE2 := kp (fun (_ : Unit) => he2); have HH2 := kp (fun (_ : Unit) => hh2); have HT2 := kp (fun (_ : Unit) => ht);have HP := kp (fun w h1 h2 => eqids_any (A := A) (n := n) (c := c) (A2 := A2) (n2 := n2) (c2 := c2) hp w hn h1 h2);clear he1 hh1 hp hq hres h1 h2 hn ht he2 hh2;have HD := kp (cert_cl (v := .slice A n c) rfl hx); have HD2 := kp (cert_cl (v := .slice A2 n2 c2) rfl hy);have LE := kp (entV_length hx.1); have LE2 := kp (entV_length hy.1);have LH := kp (hdrV_length hx.2.2.1); have LH2 := kp (hdrV_length hy.2.2.1);have LT := kq ((x.tag.map B).length = 32) (by rw [List.length_map]; exact hx.2.2.2); have LT2 := kq ((y.tag.map B).length = 32) (by rw [List.length_map]; exact hy.2.2.2);have HV := kp (cert_v (v := .slice A n c) hx); have HV2 := kp (cert_v (v := .slice A2 n2 c2) hy);have ME := kp (fun w g t hb => midCE (c := x) (v := .slice A n c) (w := w) (g := g) (t := t) hb); have ME2 := kp (fun w g t hb => midCE (c := y) (v := .slice A2 n2 c2) (w := w) (g := g) (t := t) hb);have MH := kp (fun w g t hb => midCH (c := x) (v := .slice A n c) (w := w) (g := g) (t := t) hx hb); have MH2 := kp (fun w g t hb => midCH (c := y) (v := .slice A2 n2 c2) (w := w) (g := g) (t := t) hy hb);have MT := kp (fun w g t hb => midCT (c := x) (v := .slice A n c) (w := w) (g := g) (t := t) hx hb); have MT2 := kp (fun w g t hb => midCT (c := y) (v := .slice A2 n2 c2) (w := w) (g := g) (t := t) hy hb);clear hx hy;obtain ⟨xv, hxv⟩ := xe (certV (.slice A n c) x);obtain ⟨yv, hyv⟩ := xe (certV (.slice A2 n2 c2) y);rw [← hxv] at HD HV ME MH MT ⊢;rw [← hyv] at HD2 HV2 ME2 MH2 MT2 ⊢;obtain ⟨ev, hev⟩ := xe (entV x.e);obtain ⟨eu, heu⟩ := xe (entV y.e);obtain ⟨hv, hhv⟩ := xe (hdrV x.h);obtain ⟨hu, hhu⟩ := xe (hdrV y.h);obtain ⟨tv, htv⟩ := xe (x.tag.map B);obtain ⟨tu, htu⟩ := xe (y.tag.map B);rw [← hev] at LE ME;rw [← heu] at LE2 ME2;rw [← hhv] at LH MH;rw [← hhu] at LH2 MH2;rw [← htv] at LT MT;rw [← htu] at LT2 MT2;rw [← hev, ← heu] at HE2;rw [← hhv, ← hhu] at HH2;rw [← htv, ← htu] at HT2;have qe := HE2.o (); have qh := HH2.o (); have qt := HT2.o ();clear hxv hyv hev heu hhv hhu htv htu HE2 HH2 HT2 HXO HYO;have HB := kp (Below.refl w.heap.size w);obtain ⟨g0, hg0⟩ := xe w.heap.size
 go_enter Tryz.func41, Tryz.ntmps41
 go_wp2_with (with_reducible refine wbx 2 ?_);intro v_ b_ y_ hsz2_;have HX_ := kp (at_mk b_ HD.o.len);clear b_ hsz2_;replace HB := kp (HB.o.grow' y_);replace H1 := kp (H1.o.grow y_);replace H2 := kp (H2.o.grow y_);have HX := HX_;clear y_ HX_;try clear w_
 rename World => w_;go_wp2_with (with_reducible refine wbx 3 ?_);intro v_ b_ y_ hsz2_;have HX_ := kp (at_mk b_ HD2.o.len);clear b_ hsz2_;have HG_ := kp HB.o.size;replace HB := kp (HB.o.grow' y_);replace H1 := kp (H1.o.grow y_);replace H2 := kp (H2.o.grow y_);replace HX := kp (HX.o.grow y_);generalize hg_ : w_.heap.size = g1 at HX_ HG_ ⊢;clear hg_;have HY_g := HG_;clear HG_;have HY := HX_;clear y_ HX_;try clear w_
 rename World => w_;cases re with
 | false =>
  have HRES_ := kq (res = false) (by rw [HRES.o]; simp);have FME := kp (ME.o _ _ _ HX.o.blk);have FMH := kp (MH.o _ _ _ HX.o.blk);have FMT := kp (MT.o _ _ _ HX.o.blk);have FME2 := kp (ME2.o _ _ _ HY.o.blk);have FMH2 := kp (MH2.o _ _ _ HY.o.blk);have FMT2 := kp (MT2.o _ _ _ HY.o.blk);have c1 := HX.o.blk.at_ HV.o; have c2 := HY.o.blk.at_ HV2.o;go_wp2_with (with_reducible first | refine wlm 6 row_entry FME.o LE.o ?_ | refine wlw 6 row_entry FME.o LE.o ?_ | refine wlm 8 row_entry FME2.o LE2.o ?_ | refine wlw 8 row_entry FME2.o LE2.o ?_ | refine wlm 19 row_header FMH.o LH.o ?_ | refine wlw 19 row_header FMH.o LH.o ?_ | refine wlm 21 row_header FMH2.o LH2.o ?_ | refine wlw 21 row_header FMH2.o LH2.o ?_ | refine wlm 26 row_aid FMT.o LT.o ?_ | refine wlw 26 row_aid FMT.o LT.o ?_ | refine wlm 28 row_aid FMT2.o LT2.o ?_ | refine wlw 28 row_aid FMT2.o LT2.o ?_);go_ret
  exact ⟨by rw [HRES_.o]; rfl, HB.o⟩
 | true =>
  cases rp with
  | false =>
   have HRES_ := kq (res = false) (by rw [HRES.o]; simp);have FME := kp (ME.o _ _ _ HX.o.blk);have FMH := kp (MH.o _ _ _ HX.o.blk);have FMT := kp (MT.o _ _ _ HX.o.blk);have FME2 := kp (ME2.o _ _ _ HY.o.blk);have FMH2 := kp (MH2.o _ _ _ HY.o.blk);have FMT2 := kp (MT2.o _ _ _ HY.o.blk);have c1 := HX.o.blk.at_ HV.o; have c2 := HY.o.blk.at_ HV2.o;go_wp2_with (with_reducible first | refine wlm 6 row_entry FME.o LE.o ?_ | refine wlw 6 row_entry FME.o LE.o ?_ | refine wlm 8 row_entry FME2.o LE2.o ?_ | refine wlw 8 row_entry FME2.o LE2.o ?_ | refine wlm 19 row_header FMH.o LH.o ?_ | refine wlw 19 row_header FMH.o LH.o ?_ | refine wlm 21 row_header FMH2.o LH2.o ?_ | refine wlw 21 row_header FMH2.o LH2.o ?_ | refine wlm 26 row_aid FMT.o LT.o ?_ | refine wlw 26 row_aid FMT.o LT.o ?_ | refine wlm 28 row_aid FMT2.o LT2.o ?_ | refine wlw 28 row_aid FMT2.o LT2.o ?_);refine (HP.o _ H1.o H2.o).mono ?_;clear c1 c2 FME FMH FMT FME2 FMH2 FMT2;rintro e v_ ⟨rfl, y_⟩;have y_ := y_;clear y_;replace HB := kp (HB.o.grow' y_);replace HX := kp (HX.o.grow y_);replace HY := kp (HY.o.grow y_);clear y_;try clear w_
   rename World => w_;have FME := kp (ME.o _ _ _ HX.o.blk);have FMH := kp (MH.o _ _ _ HX.o.blk);have FMT := kp (MT.o _ _ _ HX.o.blk);have FME2 := kp (ME2.o _ _ _ HY.o.blk);have FMH2 := kp (MH2.o _ _ _ HY.o.blk);have FMT2 := kp (MT2.o _ _ _ HY.o.blk);have c1 := HX.o.blk.at_ HV.o; have c2 := HY.o.blk.at_ HV2.o;go_wp2_with (with_reducible first | refine wlm 6 row_entry FME.o LE.o ?_ | refine wlw 6 row_entry FME.o LE.o ?_ | refine wlm 8 row_entry FME2.o LE2.o ?_ | refine wlw 8 row_entry FME2.o LE2.o ?_ | refine wlm 19 row_header FMH.o LH.o ?_ | refine wlw 19 row_header FMH.o LH.o ?_ | refine wlm 21 row_header FMH2.o LH2.o ?_ | refine wlw 21 row_header FMH2.o LH2.o ?_ | refine wlm 26 row_aid FMT.o LT.o ?_ | refine wlw 26 row_aid FMT.o LT.o ?_ | refine wlm 28 row_aid FMT2.o LT2.o ?_ | refine wlw 28 row_aid FMT2.o LT2.o ?_);go_ret
   exact ⟨by rw [HRES_.o]; rfl, HB.o⟩
  | true =>
   cases rh with
   | false =>
    have HRES_ := kq (res = false) (by rw [HRES.o]; simp);have FME := kp (ME.o _ _ _ HX.o.blk);have FMH := kp (MH.o _ _ _ HX.o.blk);have FMT := kp (MT.o _ _ _ HX.o.blk);have FME2 := kp (ME2.o _ _ _ HY.o.blk);have FMH2 := kp (MH2.o _ _ _ HY.o.blk);have FMT2 := kp (MT2.o _ _ _ HY.o.blk);have c1 := HX.o.blk.at_ HV.o; have c2 := HY.o.blk.at_ HV2.o;go_wp2_with (with_reducible first | refine wlm 6 row_entry FME.o LE.o ?_ | refine wlw 6 row_entry FME.o LE.o ?_ | refine wlm 8 row_entry FME2.o LE2.o ?_ | refine wlw 8 row_entry FME2.o LE2.o ?_ | refine wlm 19 row_header FMH.o LH.o ?_ | refine wlw 19 row_header FMH.o LH.o ?_ | refine wlm 21 row_header FMH2.o LH2.o ?_ | refine wlw 21 row_header FMH2.o LH2.o ?_ | refine wlm 26 row_aid FMT.o LT.o ?_ | refine wlw 26 row_aid FMT.o LT.o ?_ | refine wlm 28 row_aid FMT2.o LT2.o ?_ | refine wlw 28 row_aid FMT2.o LT2.o ?_);refine (HP.o _ H1.o H2.o).mono ?_;clear c1 c2 FME FMH FMT FME2 FMH2 FMT2;rintro e v_ ⟨rfl, y_⟩;have y_ := y_;clear y_;replace HB := kp (HB.o.grow' y_);replace HX := kp (HX.o.grow y_);replace HY := kp (HY.o.grow y_);clear y_;try clear w_
    rename World => w_;have FME := kp (ME.o _ _ _ HX.o.blk);have FMH := kp (MH.o _ _ _ HX.o.blk);have FMT := kp (MT.o _ _ _ HX.o.blk);have FME2 := kp (ME2.o _ _ _ HY.o.blk);have FMH2 := kp (MH2.o _ _ _ HY.o.blk);have FMT2 := kp (MT2.o _ _ _ HY.o.blk);have c1 := HX.o.blk.at_ HV.o; have c2 := HY.o.blk.at_ HV2.o;go_wp2_with (with_reducible first | refine wlm 6 row_entry FME.o LE.o ?_ | refine wlw 6 row_entry FME.o LE.o ?_ | refine wlm 8 row_entry FME2.o LE2.o ?_ | refine wlw 8 row_entry FME2.o LE2.o ?_ | refine wlm 19 row_header FMH.o LH.o ?_ | refine wlw 19 row_header FMH.o LH.o ?_ | refine wlm 21 row_header FMH2.o LH2.o ?_ | refine wlw 21 row_header FMH2.o LH2.o ?_ | refine wlm 26 row_aid FMT.o LT.o ?_ | refine wlw 26 row_aid FMT.o LT.o ?_ | refine wlm 28 row_aid FMT2.o LT2.o ?_ | refine wlw 28 row_aid FMT2.o LT2.o ?_);go_ret
    exact ⟨by rw [HRES_.o]; rfl, HB.o⟩
   | true =>
    cases rt with
    | false =>
     have HRES_ := kq (res = false) (by rw [HRES.o]; simp);have FME := kp (ME.o _ _ _ HX.o.blk);have FMH := kp (MH.o _ _ _ HX.o.blk);have FMT := kp (MT.o _ _ _ HX.o.blk);have FME2 := kp (ME2.o _ _ _ HY.o.blk);have FMH2 := kp (MH2.o _ _ _ HY.o.blk);have FMT2 := kp (MT2.o _ _ _ HY.o.blk);have c1 := HX.o.blk.at_ HV.o; have c2 := HY.o.blk.at_ HV2.o;go_wp2_with (with_reducible first | refine wlm 6 row_entry FME.o LE.o ?_ | refine wlw 6 row_entry FME.o LE.o ?_ | refine wlm 8 row_entry FME2.o LE2.o ?_ | refine wlw 8 row_entry FME2.o LE2.o ?_ | refine wlm 19 row_header FMH.o LH.o ?_ | refine wlw 19 row_header FMH.o LH.o ?_ | refine wlm 21 row_header FMH2.o LH2.o ?_ | refine wlw 21 row_header FMH2.o LH2.o ?_ | refine wlm 26 row_aid FMT.o LT.o ?_ | refine wlw 26 row_aid FMT.o LT.o ?_ | refine wlm 28 row_aid FMT2.o LT2.o ?_ | refine wlw 28 row_aid FMT2.o LT2.o ?_);refine (HP.o _ H1.o H2.o).mono ?_;clear c1 c2 FME FMH FMT FME2 FMH2 FMT2;rintro e v_ ⟨rfl, y_⟩;have y_ := y_;clear y_;replace HB := kp (HB.o.grow' y_);replace HX := kp (HX.o.grow y_);replace HY := kp (HY.o.grow y_);clear y_;try clear w_
     rename World => w_;have FME := kp (ME.o _ _ _ HX.o.blk);have FMH := kp (MH.o _ _ _ HX.o.blk);have FMT := kp (MT.o _ _ _ HX.o.blk);have FME2 := kp (ME2.o _ _ _ HY.o.blk);have FMH2 := kp (MH2.o _ _ _ HY.o.blk);have FMT2 := kp (MT2.o _ _ _ HY.o.blk);have c1 := HX.o.blk.at_ HV.o; have c2 := HY.o.blk.at_ HV2.o;go_wp2_with (with_reducible first | refine wlm 6 row_entry FME.o LE.o ?_ | refine wlw 6 row_entry FME.o LE.o ?_ | refine wlm 8 row_entry FME2.o LE2.o ?_ | refine wlw 8 row_entry FME2.o LE2.o ?_ | refine wlm 19 row_header FMH.o LH.o ?_ | refine wlw 19 row_header FMH.o LH.o ?_ | refine wlm 21 row_header FMH2.o LH2.o ?_ | refine wlw 21 row_header FMH2.o LH2.o ?_ | refine wlm 26 row_aid FMT.o LT.o ?_ | refine wlw 26 row_aid FMT.o LT.o ?_ | refine wlm 28 row_aid FMT2.o LT2.o ?_ | refine wlw 28 row_aid FMT2.o LT2.o ?_);go_ret
     exact ⟨by rw [HRES_.o]; rfl, HB.o⟩
    | true =>
     have HRES_ := kq (res = true) (by rw [HRES.o]; rfl);have FME := kp (ME.o _ _ _ HX.o.blk);have FMH := kp (MH.o _ _ _ HX.o.blk);have FMT := kp (MT.o _ _ _ HX.o.blk);have FME2 := kp (ME2.o _ _ _ HY.o.blk);have FMH2 := kp (MH2.o _ _ _ HY.o.blk);have FMT2 := kp (MT2.o _ _ _ HY.o.blk);have c1 := HX.o.blk.at_ HV.o; have c2 := HY.o.blk.at_ HV2.o;go_wp2_with (with_reducible first | refine wlm 6 row_entry FME.o LE.o ?_ | refine wlw 6 row_entry FME.o LE.o ?_ | refine wlm 8 row_entry FME2.o LE2.o ?_ | refine wlw 8 row_entry FME2.o LE2.o ?_ | refine wlm 19 row_header FMH.o LH.o ?_ | refine wlw 19 row_header FMH.o LH.o ?_ | refine wlm 21 row_header FMH2.o LH2.o ?_ | refine wlw 21 row_header FMH2.o LH2.o ?_ | refine wlm 26 row_aid FMT.o LT.o ?_ | refine wlw 26 row_aid FMT.o LT.o ?_ | refine wlm 28 row_aid FMT2.o LT2.o ?_ | refine wlw 28 row_aid FMT2.o LT2.o ?_);refine (HP.o _ H1.o H2.o).mono ?_;clear c1 c2 FME FMH FMT FME2 FMH2 FMT2;rintro e v_ ⟨rfl, y_⟩;have y_ := y_;clear y_;replace HB := kp (HB.o.grow' y_);replace HX := kp (HX.o.grow y_);replace HY := kp (HY.o.grow y_);clear y_;try clear w_
     rename World => w_;have FME := kp (ME.o _ _ _ HX.o.blk);have FMH := kp (MH.o _ _ _ HX.o.blk);have FMT := kp (MT.o _ _ _ HX.o.blk);have FME2 := kp (ME2.o _ _ _ HY.o.blk);have FMH2 := kp (MH2.o _ _ _ HY.o.blk);have FMT2 := kp (MT2.o _ _ _ HY.o.blk);have c1 := HX.o.blk.at_ HV.o; have c2 := HY.o.blk.at_ HV2.o;go_wp2_with (with_reducible first | refine wlm 6 row_entry FME.o LE.o ?_ | refine wlw 6 row_entry FME.o LE.o ?_ | refine wlm 8 row_entry FME2.o LE2.o ?_ | refine wlw 8 row_entry FME2.o LE2.o ?_ | refine wlm 19 row_header FMH.o LH.o ?_ | refine wlw 19 row_header FMH.o LH.o ?_ | refine wlm 21 row_header FMH2.o LH2.o ?_ | refine wlw 21 row_header FMH2.o LH2.o ?_ | refine wlm 26 row_aid FMT.o LT.o ?_ | refine wlw 26 row_aid FMT.o LT.o ?_ | refine wlm 28 row_aid FMT2.o LT2.o ?_ | refine wlw 28 row_aid FMT2.o LT2.o ?_);go_ret
     exact ⟨by rw [HRES_.o]; rfl, HB.o⟩
theorem cert_ats {v : Value} {c : Cer} (h : c.ok) : (certV v c)[0]? = some (.int .i64 c.e.kind) ∧ (certV v c)[1]? = some (.int .i64 c.e.shard) ∧ (certV v c)[36]? = some (.int .i64 c.e.epoch) ∧ (certV v c)[37]? = some v ∧ (certV v c)[38]? = some (.int .i64 c.h.shard) ∧ (certV v c)[40]? = some (.int .i64 c.h.epoch) :=
 ⟨cert_e (ent_at h.1).1, cert_e (ent_at h.1).2.1, cert_e (ent_at h.1).2.2.2.2, cert_v h, cert_h h (j := 0) (hdr_at h.2.2.1).1, cert_h h (j := 2) (hdr_at h.2.2.1).2.2⟩
end Go.Proofs.YtiijepimkgaccaaGreat

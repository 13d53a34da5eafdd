/- The contract of tx.amounts. -/
import Derived.Test.YtiijepimkgaccaaGreatCommandLongRe18
set_option linter.unusedSimpArgs false
set_option linter.unusedVariables false
set_option maxRecDepth 100000
set_option maxHeartbeats 16000000
namespace Go.Proofs.YtiijepimkgaccaaGreat
open Go.RowKit Go.Shelf
theorem fm_at {α : Type} (f : α → List Value) (sz : Nat) : ∀ (l : List α) (k j : Nat) (x : α) (u : Value), (∀ y ∈ l, (f y).length = sz) → l[k]? = some x → (f x)[j]? = some u → (l.flatMap f)[k * sz + j]? = some u
 | [], k, j, x, u, _, hx, _ => by simp at hx
 | y :: l, 0, j, x, u, hl, hx, hu => by
  simp only [List.getElem?_cons_zero, Option.some.injEq] at hx;subst hx;rw [List.flatMap_cons, Nat.zero_mul, Nat.zero_add, List.getElem?_append_left (List.getElem?_eq_some_iff.1 hu).1]; exact hu
 | y :: l, k + 1, j, x, u, hl, hx, hu => by
  rw [List.getElem?_cons_succ] at hx;have e1 : (f y).length = sz := hl y (List.mem_cons_self ..);rw [List.flatMap_cons, List.getElem?_append_right (by rw [e1, Nat.succ_mul]; omega), e1, show (k + 1) * sz + j - sz = k * sz + j by rw [Nat.succ_mul]; omega];exact fm_at f sz l k j x u (fun z hz => hl z (List.mem_cons_of_mem _ hz)) hx hu
theorem inV_cl {w : World} {Bd : Nat} {p : Value × Inp} (h : InOK w Bd p) : Cl 35 (inV p.1 p.2) := by
 refine ⟨inV_len h.2, fun u hu => ?_⟩;obtain ⟨A, c, e, _, _⟩ := h.1;unfold inV at hu;simp only [List.mem_append, List.mem_map, List.mem_cons, List.not_mem_nil, or_false] at hu;rcases hu with ⟨_, _, rfl⟩ | rfl | rfl | rfl
 ·rfl
 ·rfl
 ·rfl
 ·rw [e]; rfl
theorem outV_cl {o : Outp} (h : o.ok) : Cl 33 (outV o) := by
 refine ⟨outV_len h, fun u hu => ?_⟩;unfold outV at hu;simp only [List.mem_append, List.mem_map, List.mem_cons, List.not_mem_nil, or_false] at hu;rcases hu with ⟨_, _, rfl⟩ | rfl <;> rfl
theorem InsAt.at_ {w : World} {A : Option Addr} {n c : Nat} {l : List (Value × Inp)} (h : InsAt w A n c l) {k : Nat} (hk : k < n) :
  ∃ b off p, A = some ⟨b, off, none⟩ ∧ l[k]? = some p ∧ InOK w w.heap.size p ∧ ∀ j u, (inV p.1 p.2)[j]? = some u → w.cell? ⟨b, off + k * 35 + j, none⟩ = some u := by
 obtain ⟨hs, ho, hl, _⟩ := h;obtain ⟨b, off, e, hb, hc⟩ := hs.2 (by omega);have hk2 : k < l.length := by omega
 refine ⟨b, off, l[k], e, List.getElem?_eq_getElem hk2, ho _ (List.getElem_mem hk2), fun j u hu => ?_⟩;have h2 := hc (k * 35 + j) u (fm_at (fun p : Value × Inp => inV p.1 p.2) 35 l k j _ u (fun y hy => inV_len (ho y hy).2) (List.getElem?_eq_getElem hk2) hu);rw [← Nat.add_assoc] at h2; exact h2
theorem OutsAt.at_ {w : World} {A : Option Addr} {n c : Nat} {l : List Outp} (h : OutsAt w A n c l) {k : Nat} (hk : k < n) :
  ∃ b off p, A = some ⟨b, off, none⟩ ∧ l[k]? = some p ∧ p.ok ∧ ∀ j u, (outV p)[j]? = some u → w.cell? ⟨b, off + k * 33 + j, none⟩ = some u := by
 obtain ⟨hs, ho, hl, _⟩ := h;obtain ⟨b, off, e, hb, hc⟩ := hs.2 (by omega);have hk2 : k < l.length := by omega
 refine ⟨b, off, l[k], e, List.getElem?_eq_getElem hk2, ho _ (List.getElem_mem hk2), fun j u hu => ?_⟩;have h2 := hc (k * 33 + j) u (fm_at outV 33 l k j _ u (fun y hy => outV_len (ho y hy)) (List.getElem?_eq_getElem hk2) hu);rw [← Nat.add_assoc] at h2; exact h2
def zeroIn : List Value := inV nilS ⟨zeroD, 0, 0, []⟩
def zeroOut : List Value := outV ⟨zeroD, 0⟩
theorem zero_tin : (Tryz.prog.info? 58).map (·.zero) = some (some (.agg zeroIn.toArray)) := by kernel_rfl
theorem zero_tout : (Tryz.prog.info? 34).map (·.zero) = some (some (.agg zeroOut.toArray)) := by kernel_rfl
theorem len_tin : zeroIn.length = 35 := by simp [zeroIn, inV, zeroD]
theorem len_tout : zeroOut.length = 33 := by simp [zeroOut, outV, zeroD]
def txV (A : Option Addr) (n c : Nat) (A2 : Option Addr) (n2 c2 : Nat) (fee ex : Int) : List Value := [.slice A n c, .slice A2 n2 c2, .int .u64 fee, .int .i64 ex]
theorem txV_cl {A : Option Addr} {n c : Nat} {A2 : Option Addr} {n2 c2 : Nat} {fee ex : Int} : Cl 4 (txV A n c A2 n2 c2 fee ex) := ⟨rfl, fun u hu => by simp only [txV, List.mem_cons, List.not_mem_nil, or_false] at hu; rcases hu with rfl | rfl | rfl | rfl <;> rfl⟩
def amI (l : List (Value × Inp)) : List Int := l.map fun p => p.2.amount
def amO (l : List Outp) : List Int := l.map Outp.amount
theorem am_snoc {α : Type} (f : α → Int) {l : List α} {k : Nat} {p : α} (h : l[k]? = some p) : ((l.take (k + 1)).map f).map (Value.int .u64) = ((l.take k).map f).map (Value.int .u64) ++ [.int .u64 (f p)] := by
 rw [take_snoc h]; simp
def OwnU (w : World) (base : Nat) (A : Option Addr) (n c : Nat) (zs : List Value) : Prop := w.ownsRow base 24 1 (.slice A n c) n zs
theorem OwnU.grow {w w' : World} {base n c : Nat} {A : Option Addr} {zs : List Value} (h : OwnU w base A n c zs) (k : Grow w w') : OwnU w' base A n c zs := own_below h k
theorem amounts_any {A : Option Addr} {n c : Nat} {A2 : Option Addr} {n2 c2 : Nat} {fee ex : Int} {l : List (Value × Inp)} {os : List Outp} (w : World) (hi : InsAt w A n c l) (ho : OutsAt w A2 n2 c2 os) (hn : n ≤ 1000000) (hn2 : n2 ≤ 1000000) :
  Calls Tryz.prog 79 #[.agg (txV A n c A2 n2 c2 fee ex).toArray] w fun e w' => ∃ A3 c3 A4 c4, e = .returned (.tuple #[.slice A3 n c3, .slice A4 n2 c4]) ∧ OwnU w' w.heap.size A3 n c3 ((amI l).map (Value.int .u64)) ∧ OwnU w' w.heap.size A4 n2 c4 ((amO os).map (Value.int .u64)) ∧ Grow w w' := by
 have HI := kp hi; have HO := kp ho;have HTC := kp (txV_cl (A := A) (n := n) (c := c) (A2 := A2) (n2 := n2) (c2 := c2) (fee := fee) (ex := ex));have HT0 := kq ((txV A n c A2 n2 c2 fee ex)[0]? = some (.slice A n c)) rfl;have HT1 := kq ((txV A n c A2 n2 c2 fee ex)[1]? = some (.slice A2 n2 c2)) rfl;obtain ⟨tv, htv⟩ := xe (txV A n c A2 n2 c2 fee ex);rw [← htv] at HTC HT0 HT1 ⊢;obtain ⟨w_, hw⟩ := xe w;have HB := kq (Below w.heap.size w w_) (by rw [hw]; exact Below.refl _ _)
 suffices H : Calls Tryz.prog 79 #[.agg tv.toArray] w_ fun e w' => ∃ A3 c3 A4 c4, e = .returned (.tuple #[.slice A3 n c3, .slice A4 n2 c4]) ∧ OwnU w' w.heap.size A3 n c3 ((amI l).map (Value.int .u64)) ∧ OwnU w' w.heap.size A4 n2 c4 ((amO os).map (Value.int .u64)) ∧ Grow w w' by rw [hw] at H; exact H
 clear hw hi ho htv
 go_enter Tryz.func79, Tryz.ntmps79
 go_wp2_with (with_reducible refine wbx 1 ?_);intro v_ b_ y_ hsz2_;have HX_ := kp (at_mk b_ HTC.o.len);clear b_ hsz2_;have HG_ := kp HB.o.size;replace HB := kp (HB.o.grow' y_);generalize hg_ : w_.heap.size = g1 at HX_ HG_ ⊢;clear hg_;have HX_g := HG_;clear HG_;have HX := HX_;clear y_ HX_;try clear w_
 rename World => w_;have c0 := HX.o.blk.at_ HT0.o
 go_upto_block 0 with fail
 go_cut [2] from 8 (fun s2 wr => ∃ A3 c3, s2 = .slice A3 n c3 ∧ Hid (OwnU wr (g1 + 1) A3 n c3 ((amI l).map (Value.int .u64)) ∧ At wr g1 26 4 tv ∧ Below w.heap.size w wr))
 case first =>
  go_wp2_with fail;go_loopw [2, 11] (fun s2 iv wr => ∃ k : Nat, ∃ A3 c3, k ≤ n ∧ iv = .int .i64 k ∧ s2 = .slice A3 k c3 ∧ Hid (OwnU wr (g1 + 1) A3 k c3 (((l.take k).map fun p => p.2.amount).map (Value.int .u64)) ∧ At wr g1 26 4 tv ∧ Below w.heap.size w wr)) (fun _ iv _ => n - (intOf iv).toNat)
  case atStart => exact ⟨0, none, 0, by omega, rfl, rfl, kp ⟨World.ownsRow_nil _ _ _ _, HX.o, HB.o⟩⟩
  case round =>
   obtain ⟨k, A3, c3, hk, rfl, rfl, hI⟩ := hrel;clear HX HB c0;have HR := kp hI.o.1; have HX := kp hI.o.2.1; have HB := kp hI.o.2.2;clear hI;rename World => w_;by_cases hlt : k < n
   ·have HII := kp (HI.o.grow HB.o);obtain ⟨b, off, p, rfl, hp, hok, hc⟩ := HII.o.at_ hlt;have HC := kp hc; have HP := kp hp;have HPC := kp (inV_cl hok);have HP33 := kp (in_at (v := p.1) hok.2).2.1;have HSN := kp (am_snoc (fun q : Value × Inp => q.2.amount) hp);obtain ⟨pv, hpv⟩ := xe (inV p.1 p.2);obtain ⟨am, ham⟩ := xe p.2.amount;rw [← hpv] at HC HPC;rw [← hpv, ← ham] at HP33;rw [← ham] at HSN;obtain ⟨xs, hxs⟩ := xe (((l.take k).map fun p => p.2.amount).map (Value.int .u64));rw [← hxs] at HR HSN;clear hp hok hc hpv ham HII hxs;go_wp2_with (with_reducible first | refine wlm 14 row_tin HC.o HPC.o.len ?_ | refine wal 5 zero_tin ?_);intro w1_ hb1_ hbw1_ hsz1_;have HB1_ := kp (at_mk hb1_ len_tin);have HBW1_ := kp hbw1_;have HZ1_ := kp hsz1_;clear hb1_ hbw1_ hsz1_;go_wp2_with (with_reducible refine wsb row_tin HB1_.o.blk HB1_.o.len HPC.o.len HPC.o.one ?_);intro v_ b_ g_ hsz2_;have y_ := var_grow HBW1_.o HZ1_.o g_;have HX_ := kp (at_mk b_ HPC.o.len);clear b_ g_ hsz2_ HB1_ HBW1_ HZ1_;replace HB := kp (HB.o.grow' y_);replace HX := kp (HX.o.grow y_);replace HR := kp (HR.o.grow y_);generalize hg_ : w_.heap.size = g5 at HX_ ⊢;clear hg_;have HE := HX_;clear y_ HX_;clear w1_;try clear w_
    rename World => w_;have c33 := HE.o.blk.at_ HP33.o;have HGZ := kq (g1 + 1 ≤ w_.heap.size) (by have := HX.o.lt; omega);have HR3 := kq (w_.ownsRow (g1 + 1) 24 1 (.slice A3 k c3) k xs) HR.o;go_wp2_with (first | (at_builtin; refine wpl_app1 rfl rfl el_us HR3.o rfl (m := 1) rfl ?_ ?_ ?_ ?_ ?_ ?_))
    ·rfl
    ·rfl
    ·omega
    ·omega
    ·exact HGZ.o
    intro A4 c4 w4_ ho_ hg_ hA_;have hne_ := own_from HR3.o;have HX_ := kq (At w4_ g1 26 4 tv) (at_mk (HX.o.blk.grown hg_ (fun h => by have := hne_ _ h.symm; omega)) HX.o.len);have HB_ := kp (below_grown HB.o hg_ HB.o.size (fun x hx => by have := hne_ _ hx; have := HX_g.o; omega));have HR_ := kq (OwnU w4_ (g1 + 1) A4 (k + 1) c4 (((l.take (k + 1)).map fun p => p.2.amount).map (Value.int .u64))) (by rw [HSN.o]; exact ho_);clear ho_ hg_ hA_ hne_ HX HB HR HR3;go_wp2_with fail;go_roundw
    case rel => exact ⟨k + 1, A4, c4, by omega, by go_num, rfl, kp ⟨HR_.o, HX_.o, HB_.o⟩⟩
    case measure => simp [intOf]; omega
   ·obtain rfl : k = n := by omega
    have HRN := kq (OwnU w_ (g1 + 1) A3 k c3 ((amI l).map (Value.int .u64))) (by have h := HR.o; rw [List.take_of_length_le (by have := HI.o.2.2.1; omega)] at h; exact h);go_wp2_with fail
    go_meet
    case rel => exact ⟨A3, c3, rfl, kp ⟨HRN.o, HX.o, HB.o⟩⟩
 case rest =>
  obtain ⟨A3_, c3_, rfl, hI⟩ := hcut;clear HX HB c0;have HU := kp hI.o.1; have HX := kp hI.o.2.1; have HB := kp hI.o.2.2;clear hI;try clear w_
  rename World => w_;have c1 := HX.o.blk.at_ HT1.o;obtain ⟨gs, hgs⟩ := xe w_.heap.size;have HG1 := kq (g1 + 1 ≤ gs ∧ w.heap.size ≤ gs) (by have h1 := HX.o.lt; have h2 := HB.o.size; omega);have HUL := kq (∀ q, A3_.map Addr.block = some q → q < gs) (fun q hq => by rw [hgs]; exact own_lt HU.o q hq);have HGS := kq (gs ≤ w_.heap.size) (by omega);clear hgs;go_wp2_with fail;go_loopw [3, 24] (fun s3 iv wr => ∃ k : Nat, ∃ A3 c3, k ≤ n2 ∧ iv = .int .i64 k ∧ s3 = .slice A3 k c3 ∧ Hid (OwnU wr gs A3 k c3 (((os.take k).map Outp.amount).map (Value.int .u64)) ∧ At wr g1 26 4 tv ∧ Below w.heap.size w wr ∧ OwnU wr (g1 + 1) A3_ n c3_ ((amI l).map (Value.int .u64)) ∧ gs ≤ wr.heap.size)) (fun _ iv _ => n2 - (intOf iv).toNat)
  case atStart => exact ⟨0, none, 0, by omega, rfl, rfl, kp ⟨World.ownsRow_nil _ _ _ _, HX.o, HB.o, HU.o, HGS.o⟩⟩
  case round =>
   obtain ⟨k, A3, c3, hk, rfl, rfl, hI⟩ := hrel;clear HX HB c1 HU HGS;have HR := kp hI.o.1; have HX := kp hI.o.2.1; have HB := kp hI.o.2.2.1; have HU := kp hI.o.2.2.2.1; have HGS := kp hI.o.2.2.2.2;clear hI;rename World => w_;by_cases hlt : k < n2
   ·have HII := kp (HO.o.grow HB.o);obtain ⟨b, off, p, rfl, hp, hok, hc⟩ := HII.o.at_ hlt;have HC := kp hc;have HPC := kp (outV_cl hok);have HP33 := kp (out_at hok);have HSN := kp (am_snoc Outp.amount hp);obtain ⟨pv, hpv⟩ := xe (outV p);obtain ⟨am, ham⟩ := xe p.amount;rw [← hpv] at HC HPC;rw [← hpv, ← ham] at HP33;rw [← ham] at HSN;have HSZ := kq (SzG w_ gs) HGS.o;obtain ⟨xs, hxs⟩ := xe (((os.take k).map Outp.amount).map (Value.int .u64));rw [← hxs] at HR HSN;clear hp hok hc hpv ham HII hxs;go_wp2_with (with_reducible first | refine wlm 27 row_tout HC.o HPC.o.len ?_ | refine wal 7 zero_tout ?_);intro w1_ hb1_ hbw1_ hsz1_;have HB1_ := kp (at_mk hb1_ len_tout);have HBW1_ := kp hbw1_;have HZ1_ := kp hsz1_;clear hb1_ hbw1_ hsz1_;go_wp2_with (with_reducible refine wsb row_tout HB1_.o.blk HB1_.o.len HPC.o.len HPC.o.one ?_);intro v_ b_ g_ hsz2_;have y_ := var_grow HBW1_.o HZ1_.o g_;have HX_ := kp (at_mk b_ HPC.o.len);clear b_ g_ hsz2_ HB1_ HBW1_ HZ1_;replace HB := kp (HB.o.grow' y_);replace HX := kp (HX.o.grow y_);replace HR := kp (HR.o.grow y_);replace HU := kp (HU.o.grow y_);replace HSZ := kp (HSZ.o.grow y_);generalize hg_ : w_.heap.size = g7 at HX_ ⊢;clear hg_;have HE := HX_;clear y_ HX_;clear w1_;try clear w_
    rename World => w_;have c33 := HE.o.blk.at_ HP33.o;have HGZ := kq (gs ≤ w_.heap.size) HSZ.o;have HR3 := kq (w_.ownsRow gs 24 1 (.slice A3 k c3) k xs) HR.o;go_wp2_with (first | (at_builtin; refine wpl_app1 rfl rfl el_us HR3.o rfl (m := 1) rfl ?_ ?_ ?_ ?_ ?_ ?_))
    ·rfl
    ·rfl
    ·omega
    ·omega
    ·exact HGZ.o
    intro A4 c4 w4_ ho_ hg_ hA_;have hne_ := own_from HR3.o;have HX_ := kq (At w4_ g1 26 4 tv) (at_mk (HX.o.blk.grown hg_ (fun h => by have := hne_ _ h.symm; have := HG1.o; omega)) HX.o.len);have HB_ := kp (below_grown HB.o hg_ HB.o.size (fun x hx => by have := hne_ _ hx; have := HX_g.o; have := HG1.o; omega));have HR_ := kq (OwnU w4_ gs A4 (k + 1) c4 ((((os.take (k + 1)).map Outp.amount)).map (Value.int .u64))) (by rw [HSN.o]; exact ho_);have HU_ := kq (OwnU w4_ (g1 + 1) A3_ n c3_ ((amI l).map (Value.int .u64))) (own_kept HU.o hg_ (fun q hq he => by have h1 := hne_ _ he.symm; have h2 := HUL.o q (by rw [hq]; rfl); omega));have HSZ_ := kq (gs ≤ w4_.heap.size) (Nat.le_trans HGZ.o hg_.size);clear ho_ hg_ hA_ hne_ HX HB HR HR3 HU;go_wp2_with fail;go_roundw
    case rel => exact ⟨k + 1, A4, c4, by omega, by go_num, rfl, kp ⟨HR_.o, HX_.o, HB_.o, HU_.o, HSZ_.o⟩⟩
    case measure => simp [intOf]; omega
   ·obtain rfl : k = n2 := by omega
    have HRN := kq (OwnU w_ gs A3 k c3 ((amO os).map (Value.int .u64))) (by have h := HR.o; rw [List.take_of_length_le (by have := HO.o.2.2.1; omega)] at h; exact h);go_wp2_with fail
    go_ret2
    exact ⟨_, _, _, _, rfl, own_base HU.o (by have := HX_g.o; omega), own_base HRN.o (by have := HG1.o; omega), HB.o⟩
open Go.RowKit Go.ChangeShapes Go.WideShapes
theorem row_cmd : RowT Tryz.prog 36 73 := ⟨_, Tryz.underlying36, by kernel_rfl, by kernel_rfl⟩
def CerOK (w : World) (Bd : Nat) (p : Value × Cer) : Prop := (∃ A n c, p.1 = .slice A n c ∧ (Sl w Bd 32 A n (idCells p.2.path) ∧ p.2.path.length = n ∧ (∀ d ∈ p.2.path, d.length = 32) ∧ n ≤ c)) ∧ p.2.ok
def CertsAt (w : World) (A : Option Addr) (n c : Nat) (cl : List (Value × Cer)) : Prop := Sl w w.heap.size 137 A n (cl.flatMap fun p => certV p.1 p.2) ∧ (∀ p ∈ cl, CerOK w w.heap.size p) ∧ cl.length = n ∧ n ≤ c
theorem CerOK.grow {w w' : World} {p : Value × Cer} (h : CerOK w w.heap.size p) (k : Grow w w') : CerOK w' w'.heap.size p := by
 obtain ⟨⟨A, n, c, e, h1, h2, h3, h4⟩, h5⟩ := h;exact ⟨⟨A, n, c, e, (h1.below k).more k.size, h2, h3, h4⟩, h5⟩
theorem CertsAt.grow {w w' : World} {A : Option Addr} {n c : Nat} {cl : List (Value × Cer)} (h : CertsAt w A n c cl) (k : Grow w w') : CertsAt w' A n c cl := ⟨(h.1.below k).more k.size, fun p hp => (h.2.1 p hp).grow k, h.2.2⟩
theorem CertsAt.nil (w : World) : CertsAt w none 0 0 [] := ⟨⟨by simp, fun h => absurd h (by omega)⟩, by simp, rfl, Nat.le_refl _⟩
theorem certsAt_len {cl : List (Value × Cer)} (h : ∀ p ∈ cl, p.2.ok) : ∀ y ∈ cl, (certV y.1 y.2).length = 137 := fun y hy => certV_len (h y hy)
theorem fm_atQ {α : Type} (f : α → List Value) (sz : Nat) : ∀ (l : List α) (k j : Nat) (x : α) (u : Value), (∀ y ∈ l, (f y).length = sz) → l[k]? = some x → (f x)[j]? = some u → (l.flatMap f)[k * sz + j]? = some u
 | [], k, j, x, u, _, hk, _ => by simp at hk
 | y :: l, 0, j, x, u, hl, hk, hu => by
  simp at hk; subst hk;rw [List.flatMap_cons, Nat.zero_mul, Nat.zero_add, List.getElem?_append_left (List.getElem?_eq_some_iff.1 hu).1]; exact hu
 | y :: l, k + 1, j, x, u, hl, hk, hu => by
  have h1 := hl y (List.mem_cons_self ..);rw [List.flatMap_cons, List.getElem?_append_right (by rw [h1, Nat.add_mul]; omega), h1, show (k + 1) * sz + j - sz = k * sz + j by rw [Nat.add_mul]; omega];exact fm_atQ f sz l k j x u (fun z hz => hl z (List.mem_cons_of_mem _ hz)) (by simpa using hk) hu
theorem CertsAt.at_ {w : World} {A : Option Addr} {n c : Nat} {cl : List (Value × Cer)} (h : CertsAt w A n c cl) {k : Nat} (hk : k < n) :
  ∃ b off p A2 n2 c2, A = some ⟨b, off, none⟩ ∧ cl[k]? = some p ∧ p.1 = .slice A2 n2 c2 ∧ p.2.ok ∧ Ids w A2 n2 c2 p.2.path ∧ b < w.heap.size ∧ ∀ j u, (certV (.slice A2 n2 c2) p.2)[j]? = some u → w.cell? ⟨b, off + k * 137 + j, none⟩ = some u := by
 obtain ⟨hs, ho, hl, _⟩ := h;obtain ⟨b, off, e, hb, hc⟩ := hs.2 (by omega);have hk2 : k < cl.length := by omega
 obtain ⟨⟨A2, n2, c2, e2, h1, h2, h3, h4⟩, h5⟩ := ho _ (List.getElem_mem hk2);refine ⟨b, off, cl[k], A2, n2, c2, e, List.getElem?_eq_getElem hk2, e2, h5, ⟨h1, h2, h3, h4⟩, hb, fun j u hu => ?_⟩;have h6 := hc (k * 137 + j) u (fm_atQ (fun p : Value × Cer => certV p.1 p.2) 137 cl k j _ u (certsAt_len fun p hp => (ho p hp).2) (List.getElem?_eq_getElem hk2) (by show (certV cl[k].1 cl[k].2)[j]? = some u; rw [e2]; exact hu));rw [← Nat.add_assoc] at h6; exact h6
def cmdV (m : Cmd) (tv : List Value) (cv : Value) : List Value := .int .i64 m.kind :: (tv ++ (cv :: (outV m.dest ++ (.int .i64 m.serial :: .int .i64 m.epoch :: m.id.map B))))
structure CW where
 A : Option Addr
 n : Nat
 c : Nat
 A2 : Option Addr
 n2 : Nat
 c2 : Nat
 A3 : Option Addr
 n3 : Nat
 c3 : Nat
 l : List (Value × Inp)
 cl : List (Value × Cer)
def CW.tv (q : CW) (m : Cmd) : List Value := txV q.A q.n q.c q.A2 q.n2 q.c2 m.tx.fee m.tx.expiry
def CW.vs (q : CW) (m : Cmd) : List Value := cmdV m (q.tv m) (.slice q.A3 q.n3 q.c3)
structure CmdAt (w : World) (q : CW) (m : Cmd) : Prop where
 ins : InsAt w q.A q.n q.c q.l
 outs : OutsAt w q.A2 q.n2 q.c2 m.tx.outs
 certs : CertsAt w q.A3 q.n3 q.c3 q.cl
 insE : m.tx.ins = q.l.map Prod.snd
 certsE : m.certs = q.cl.map Prod.snd
 ok : m.ok
theorem CmdAt.grow {w w' : World} {q : CW} {m : Cmd} (h : CmdAt w q m) (k : Grow w w') : CmdAt w' q m := ⟨h.ins.grow k, h.outs.grow k, h.certs.grow k, h.insE, h.certsE, h.ok⟩
theorem CmdAt.tx {w : World} {q : CW} {m : Cmd} (h : CmdAt w q m) : (⟨q.l.map Prod.snd, m.tx.outs, m.tx.fee, m.tx.expiry⟩ : Txn) = m.tx := by rw [← h.insE]
theorem CmdAt.n3 {w : World} {q : CW} {m : Cmd} (h : CmdAt w q m) : m.certs.length = q.n3 := by rw [h.certsE, List.length_map]; exact h.certs.2.2.1
theorem CmdAt.n1 {w : World} {q : CW} {m : Cmd} (h : CmdAt w q m) : m.tx.ins.length = q.n := by rw [h.insE, List.length_map]; exact h.ins.2.2.1
theorem CmdAt.n2 {w : World} {q : CW} {m : Cmd} (h : CmdAt w q m) : m.tx.outs.length = q.n2 := h.outs.2.2.1
theorem outV_length {o : Outp} (h : o.ok) : (outV o).length = 33 := by unfold outV; rw [List.length_append, List.length_map, h.1]; rfl
theorem outV_oneC (o : Outp) : ∀ u ∈ outV o, u.oneCell' = true := fun u hu => by
 unfold outV at hu;rcases List.mem_append.1 hu with hu | hu
 ·exact all_bytes _ u hu
 ·rw [List.mem_singleton] at hu; subst hu; rfl
theorem vs_len {q : CW} {m : Cmd} (h : m.ok) : (q.vs m).length = 73 := by
 obtain ⟨_, _, _, h4, _, _, h7⟩ := h;unfold CW.vs cmdV CW.tv txV;simp only [List.length_cons, List.length_append, outV_length h4, List.length_map, h7, List.length_nil]
theorem vs_one (q : CW) (m : Cmd) : ∀ u ∈ q.vs m, u.oneCell' = true := fun u hu => by
 unfold CW.vs cmdV CW.tv txV at hu;simp only [List.mem_cons, List.mem_append, List.not_mem_nil, or_false] at hu;rcases hu with rfl | (rfl | rfl | rfl | rfl) | rfl | h | rfl | rfl | h
 ·rfl
 ·rfl
 ·rfl
 ·rfl
 ·rfl
 ·rfl
 ·exact outV_oneC _ u h
 ·rfl
 ·rfl
 ·exact all_bytes _ u h
theorem vs_cl {q : CW} {m : Cmd} (h : m.ok) : Cl 73 (q.vs m) := ⟨vs_len h, vs_one q m⟩
theorem vs_kind (q : CW) (m : Cmd) : (q.vs m)[0]? = some (.int .i64 m.kind) := rfl
theorem vs_tx {q : CW} {m : Cmd} {j : Nat} {u : Value} (hu : (q.tv m)[j]? = some u) : (q.vs m)[1 + j]? = some u := by
 unfold CW.vs cmdV; rw [Nat.add_comm, List.getElem?_cons_succ, List.getElem?_append_left (List.getElem?_eq_some_iff.1 hu).1]; exact hu
theorem vs_certs (q : CW) (m : Cmd) : (q.vs m)[5]? = some (.slice q.A3 q.n3 q.c3) := rfl
theorem vs_to {q : CW} {m : Cmd} {j : Nat} {u : Value} (hu : (outV m.dest)[j]? = some u) : (q.vs m)[6 + j]? = some u := by
 show ((.int .i64 m.kind :: (q.tv m ++ [.slice q.A3 q.n3 q.c3])) ++ (outV m.dest ++ (.int .i64 m.serial :: .int .i64 m.epoch :: m.id.map B)))[6 + j]? = some u
 rw [List.getElem?_append_right (by show 6 ≤ 6 + j; omega)];rw [show 6 + j - (Value.int .i64 m.kind :: (q.tv m ++ [.slice q.A3 q.n3 q.c3])).length = j by show 6 + j - 6 = j; omega, List.getElem?_append_left (List.getElem?_eq_some_iff.1 hu).1]; exact hu
theorem vs_back {q : CW} {m : Cmd} (h : m.dest.ok) {j : Nat} {u : Value} (hu : (Value.int .i64 m.serial :: .int .i64 m.epoch :: m.id.map B)[j]? = some u) : (q.vs m)[39 + j]? = some u := by
 have hl := outV_length h;show ((.int .i64 m.kind :: (q.tv m ++ [.slice q.A3 q.n3 q.c3])) ++ (outV m.dest ++ (.int .i64 m.serial :: .int .i64 m.epoch :: m.id.map B)))[39 + j]? = some u
 rw [List.getElem?_append_right (by show 6 ≤ 39 + j; omega)];rw [show 39 + j - (Value.int .i64 m.kind :: (q.tv m ++ [.slice q.A3 q.n3 q.c3])).length = 33 + j by show 39 + j - 6 = 33 + j; omega, List.getElem?_append_right (by omega), hl, show 33 + j - 33 = j by omega]; exact hu
theorem vs_serial {q : CW} {m : Cmd} (h : m.dest.ok) : (q.vs m)[39]? = some (.int .i64 m.serial) := vs_back h (j := 0) rfl
theorem vs_epoch {q : CW} {m : Cmd} (h : m.dest.ok) : (q.vs m)[40]? = some (.int .i64 m.epoch) := vs_back h (j := 1) rfl
theorem vs_id {q : CW} {m : Cmd} (h : m.dest.ok) {j : Nat} {u : Value} (hu : (m.id.map B)[j]? = some u) : (q.vs m)[41 + j]? = some u := by
 have := vs_back (q := q) h (j := 2 + j) (u := u) (by rw [show 2 + j = j + 1 + 1 by omega, List.getElem?_cons_succ, List.getElem?_cons_succ]; exact hu)
 rwa [← Nat.add_assoc] at this
instance : Inhabited Cer := ⟨⟨⟨0, 0, [], 0, 0, 0⟩, [], ⟨0, 0, 0, [], []⟩, []⟩⟩
section
variable {H : Type} {enc : TypeId × Value → H} {w : World} {r : Reach} {b0 base : Nat} {spare : Nat → Bool} {held : Bool}
end
end Go.Proofs.YtiijepimkgaccaaGreat
namespace Go.Proofs.YtiijepimkgaccaaGreat
open Go.RowKit Go.Shelf
theorem twithin_any (a b c : Int) (w : World) : Calls Tryz.prog 97 #[.int .i64 a, .int .i64 b, .int .i64 c] w fun e w' => e = .returned (.bool (inB a b c)) ∧ w = w' := by
 obtain ⟨p, hp⟩ : ∃ p, decide (b ≤ a) = p := ⟨_, rfl⟩;obtain ⟨q, hq⟩ : ∃ q, decide (a ≤ c) = q := ⟨_, rfl⟩;have HR := kq (inB a b c = (p && q)) (by unfold inB; rw [← hp, ← hq]);rw [HR.o];clear HR
 go_enter Tryz.func97, Tryz.ntmps97
 cases p <;> cases q <;> (go_wp2; go_ret; exact ⟨rfl, rfl⟩)
theorem long1_any {w : World} {pv : List Value} {A : Option Addr} {c : Nat} {i : Inp} (hp : pv = inV (.slice A i.secret.length c) i) (hk : i.ok) (w : World) :
  Calls Tryz.prog 99 #[.agg pv.toArray] w fun e w' => e = .returned (.bool (longI i)) ∧ Grow w w' := by
 have HPC := kp (show Cl 35 pv from ⟨by rw [hp]; exact inV_len hk, fun u hu => by
  rw [hp] at hu;unfold inV at hu;simp only [List.mem_append, List.mem_map, List.mem_cons, List.not_mem_nil, or_false] at hu
  rcases hu with ⟨_, _, rfl⟩ | rfl | rfl | rfl <;> rfl⟩)
 obtain ⟨n, hn⟩ := xe i.secret.length;obtain ⟨ix, hix⟩ := xe i.index;have H34 := kq (pv[34]? = some (.slice A n c)) (by rw [hp, hn]; exact (in_at hk).2.2);have H32 := kq (pv[32]? = some (.int .i64 ix)) (by rw [hp, hix]; exact (in_at hk).1);obtain ⟨p, hpp⟩ : ∃ p, decide ((64 : Int) < (n : Int)) = p := ⟨_, rfl⟩;obtain ⟨q, hq⟩ : ∃ q, inB ix 0 15 = q := ⟨_, rfl⟩;have HQ := kp (fun w => twithin_any ix 0 15 w);rw [hq] at HQ;have HR := kq (longI i = (p || !q)) (by unfold longI; rw [← hpp, ← hq, hn, hix]; congr 1; rw [Bool.eq_iff_iff]; simp; omega);rw [HR.o];clear HR hp hn hix hq;refine bq (fun w_ HB => ?_)
 go_enter Tryz.func99, Tryz.ntmps99
 go_wp2_with (with_reducible refine wbx 1 ?_);intro v_ b_ y_ hsz2_;have HX_ := kp (at_mk b_ HPC.o.len);clear b_ hsz2_;have HG_ := kp HB.o.size;replace HB := kp (HB.o.grow' y_);generalize hg_ : w_.heap.size = g1 at HX_ HG_ ⊢;clear hg_;have HX_g := HG_;clear HG_;have HX := HX_;clear y_ HX_;try clear w_
 rename World => w_;have c34 := HX.o.blk.at_ H34.o;have c32 := HX.o.blk.at_ H32.o;cases p with
 | true =>
  go_wp2_with fail;go_ret
  exact ⟨rfl, HB.o⟩
 | false =>
  go_wp2_with fail;refine (HQ.o _).mono ?_;rintro e v_ ⟨rfl, rfl⟩;go_wp2_with fail;go_ret
  exact ⟨by first | rfl | simp, HB.o⟩
theorem any_take {α : Type} (f : α → Bool) {l : List α} {k : Nat} {p : α} (h : l[k]? = some p) : (l.take (k + 1)).any f = ((l.take k).any f || f p) := by
 rw [take_snoc h, List.any_append]; simp
theorem indexf_any {A : Option Addr} {n c : Nat} {l : List (Value × Inp)} (w : World) (hi : InsAt w A n c l) (hn : n ≤ 1000000) :
  Calls Tryz.prog 105 #[.slice A n c, .func (.func 99) #[] #[]] w fun e w' => ∃ r : Int, e = .returned (.int .i64 r) ∧ (0 ≤ r ↔ (l.map Prod.snd).any longI = true) ∧ Grow w w' := by
 have HI := kp hi;obtain ⟨w_, hw⟩ := xe w;have HB := kq (Below w.heap.size w w_) (by rw [hw]; exact Below.refl _ _)
 suffices H : Calls Tryz.prog 105 #[.slice A n c, .func (.func 99) #[] #[]] w_ fun e w' => ∃ r : Int, e = .returned (.int .i64 r) ∧ (0 ≤ r ↔ (l.map Prod.snd).any longI = true) ∧ Grow w w' by rw [hw] at H; exact H
 clear hw hi
 go_enter Tryz.func105, Tryz.ntmps105
 go_wp2_with fail;go_loopw [8] (fun iv wr => ∃ k : Nat, k ≤ n ∧ iv = .int .i64 k ∧ Hid (((l.map Prod.snd).take k).any longI = false ∧ Below w.heap.size w wr)) (fun iv _ => n - (intOf iv).toNat)
 case atStart => exact ⟨0, by omega, rfl, kp ⟨by simp, HB.o⟩⟩
 case round =>
  obtain ⟨k, hk, rfl, hI⟩ := hrel;clear HB;have HN := kp hI.o.1; have HB := kp hI.o.2;clear hI;rename World => w_;by_cases hlt : k < n
  ·have HII := kp (HI.o.grow HB.o);obtain ⟨b, off, p, rfl, hp, hok, hc⟩ := HII.o.at_ hlt;have HC := kp hc;have HPC := kp (inV_cl hok);obtain ⟨A4, c4, e4, _, _⟩ := hok.1;have HL := kp (fun w => long1_any (w := w) (pv := inV p.1 p.2) (A := A4) (c := c4) (by rw [e4]) hok.2 w);have HSN := kp (any_take longI (l := l.map Prod.snd) (k := k) (p := p.2) (by rw [List.getElem?_map, hp]; rfl));have HME := kq (p.2 ∈ l.map Prod.snd) (List.mem_map_of_mem (List.mem_of_getElem? hp));obtain ⟨pv, hpv⟩ := xe (inV p.1 p.2);rw [← hpv] at HC HPC HL;obtain ⟨lg, hlg⟩ := xe (longI p.2);have HLG := kp hlg;rw [← hlg] at HL HSN;clear hp hok hc hpv hlg e4 HII;go_wp2_with (with_reducible refine wlm 15 row_tin HC.o HPC.o.len ?_);refine (HL.o _).mono ?_;rintro e v_ ⟨rfl, y_⟩;have HB_ := kp (HB.o.grow' y_);clear y_ HB HL;cases lg with
   | true =>
    go_wp2_with fail;go_ret
    exact ⟨_, rfl, ⟨fun _ => List.any_eq_true.2 ⟨_, HME.o, HLG.o.symm⟩, fun _ => by omega⟩, HB_.o⟩
   | false =>
    go_wp2_with fail;go_roundw
    case rel => exact ⟨k + 1, by omega, by go_num, kp ⟨by rw [HSN.o, HN.o]; rfl, HB_.o⟩⟩
    case measure => simp [intOf]; omega
  ·obtain rfl : k = n := by omega
   have HAN := kq ((l.map Prod.snd).any longI = false) (by have h := HN.o; rw [List.take_of_length_le (by rw [List.length_map]; have := HI.o.2.2.1; omega)] at h; exact h);go_wp2_with fail;go_ret
   exact ⟨_, rfl, ⟨fun h => by omega, fun h => by rw [HAN.o] at h; cases h⟩, HB.o⟩
theorem containsf_any {A : Option Addr} {n c : Nat} {l : List (Value × Inp)} (w : World) (hi : InsAt w A n c l) (hn : n ≤ 1000000) :
  Calls Tryz.prog 98 #[.slice A n c, .func (.func 99) #[] #[]] w fun e w' => e = .returned (.bool ((l.map Prod.snd).any longI)) ∧ Grow w w' := by
 have HI := kp hi;have HX := kp (fun w h => indexf_any (A := A) (n := n) (c := c) (l := l) w h hn);obtain ⟨q, hq⟩ := xe ((l.map Prod.snd).any longI);rw [← hq] at HX ⊢;clear hi hq
 go_enter Tryz.func98, Tryz.ntmps98
 go_wp2_with fail;refine (HX.o _ HI.o).mono ?_;rintro e v_ ⟨r, rfl, hr, hb⟩;have HB := kp hb;cases q with
 | true =>
  have d0 : decide ((0 : Int) ≤ r) = true := by simpa using hr
  have h0 : 0 ≤ r := by simpa using hr
  clear hr hb;go_wp2_with fail;go_ret
  exact ⟨by first | rfl | simp, HB.o⟩
 | false =>
  have h0 : ¬ 0 ≤ r := by simpa using hr
  have d0 : decide ((0 : Int) ≤ r) = false := by simpa using h0
  clear hr hb;go_wp2_with fail;go_ret
  exact ⟨by first | rfl | simp, HB.o⟩
theorem islong_any {A : Option Addr} {n c : Nat} {A2 : Option Addr} {n2 c2 : Nat} {fee ex : Int} {l : List (Value × Inp)} {os : List Outp} (w : World) (hi : InsAt w A n c l) (hos : os.length = n2) (hn : n ≤ 1000000) (hn2 : n2 ≤ 1000000) (hex : I64 ex) :
  Calls Tryz.prog 80 #[.agg (txV A n c A2 n2 c2 fee ex).toArray] w fun e w' => e = .returned (.bool (longT ⟨l.map Prod.snd, os, fee, ex⟩)) ∧ Grow w w' := by
 have HI := kp hi;have HTC := kp (txV_cl (A := A) (n := n) (c := c) (A2 := A2) (n2 := n2) (c2 := c2) (fee := fee) (ex := ex));have HT0 := kq ((txV A n c A2 n2 c2 fee ex)[0]? = some (.slice A n c)) rfl;have HT1 := kq ((txV A n c A2 n2 c2 fee ex)[1]? = some (.slice A2 n2 c2)) rfl;have HT3 := kq ((txV A n c A2 n2 c2 fee ex)[3]? = some (.int .i64 ex)) rfl;obtain ⟨tv, htv⟩ := xe (txV A n c A2 n2 c2 fee ex);rw [← htv] at HTC HT0 HT1 HT3 ⊢;obtain ⟨p, hp⟩ : ∃ p, inB (n : Int) 1 16 = p := ⟨_, rfl⟩;obtain ⟨q, hq⟩ : ∃ p, inB (n2 : Int) 1 16 = p := ⟨_, rfl⟩;obtain ⟨r, hr⟩ : ∃ p, inB ex 0 1099511627776 = p := ⟨_, rfl⟩;have W1 := kp (fun w => twithin_any (n : Int) 1 16 w); have W2 := kp (fun w => twithin_any (n2 : Int) 1 16 w); have W3 := kp (fun w => twithin_any ex 0 1099511627776 w);rw [hp] at W1;rw [hq] at W2;rw [hr] at W3;have HR := kq (longT ⟨l.map Prod.snd, os, fee, ex⟩ = (!(p && q && r) || (l.map Prod.snd).any longI)) (by unfold longT shortT; simp only [List.length_map]; rw [hi.2.2.1, hos, hp, hq, hr]);have HCF := kp (fun w h => containsf_any (A := A) (n := n) (c := c) (l := l) w h hn);obtain ⟨z, hz⟩ := xe ((l.map Prod.snd).any longI);rw [← hz] at HR HCF;rw [HR.o];obtain ⟨w_, hw⟩ := xe w;have HB := kq (Below w.heap.size w w_) (by rw [hw]; exact Below.refl _ _)
 suffices H : Calls Tryz.prog 80 #[.agg tv.toArray] w_ fun e w' => e = .returned (.bool (!(p && q && r) || z)) ∧ Grow w w' by rw [hw] at H; exact H
 clear hw hi htv hp hq hr hz HR hex hos
 go_enter Tryz.func80, Tryz.ntmps80
 go_wp2_with (with_reducible refine wbx 1 ?_);intro v_ b_ y_ hsz2_;have HX_ := kp (at_mk b_ HTC.o.len);clear b_ hsz2_;have HG_ := kp HB.o.size;replace HB := kp (HB.o.grow' y_);generalize hg_ : w_.heap.size = g1 at HX_ HG_ ⊢;clear hg_;have HX_g := HG_;clear HG_;have HX := HX_;clear y_ HX_;try clear w_
 rename World => w_;have c0 := HX.o.blk.at_ HT0.o;have c1 := HX.o.blk.at_ HT1.o;have c3 := HX.o.blk.at_ HT3.o;go_wp2_with fail;refine (W1.o _).mono ?_;rintro e v_ ⟨rfl, rfl⟩;cases p with
 | false =>
  go_wp2_with fail;go_ret
  exact ⟨by first | rfl | simp, HB.o⟩
 | true =>
  go_wp2_with fail;refine (W2.o _).mono ?_;rintro e v_ ⟨rfl, rfl⟩;cases q with
  | false =>
   go_wp2_with fail;go_ret
   exact ⟨by first | rfl | simp, HB.o⟩
  | true =>
   go_wp2_with fail;refine (W3.o _).mono ?_;rintro e v_ ⟨rfl, rfl⟩;cases r with
   | false =>
    go_wp2_with fail;go_ret
    exact ⟨by first | rfl | simp, HB.o⟩
   | true =>
    go_wp2_with fail;refine (HCF.o _ (HI.o.grow HB.o)).mono ?_;rintro e v_ ⟨rfl, y_⟩;have HB_ := kp (HB.o.grow' y_);go_wp2_with fail;go_ret
    exact ⟨by first | rfl | simp, HB_.o⟩
theorem index64_any {A : Option Addr} {n c : Nat} {zs : List Int} {x : Int} (w : World) (hs : Sl w w.heap.size 1 A n (zs.map (Value.int .u64))) (hn : n ≤ 1000000) :
  Calls Tryz.prog 100 #[.slice A n c, .int .u64 x] w fun e w' => ∃ r : Int, e = .returned (.int .i64 r) ∧ (0 ≤ r ↔ x ∈ zs) ∧ w = w' := by
 have HS := kp hs;have hl : zs.length = n := by have := hs.len; simpa using this
 have HL := kp hl;clear hs hl
 go_enter Tryz.func100, Tryz.ntmps100
 go_wp2_with fail;go_loopw [8] (fun iv wr => ∃ k : Nat, k ≤ n ∧ iv = .int .i64 k ∧ Hid (x ∉ zs.take k) ∧ wr = w) (fun iv _ => n - (intOf iv).toNat)
 case atStart => exact ⟨0, by omega, rfl, kp (by simp), rfl⟩
 case round =>
  obtain ⟨k, hk, rfl, hnot, rfl⟩ := hrel;by_cases hlt : k < n
  ·obtain ⟨b, off, u, rfl, hb, hu, hc⟩ := HS.o.at_ hlt;rw [List.getElem?_map] at hu;obtain ⟨z, hz, rfl⟩ := Option.map_eq_some_iff.1 hu;have HZ := kp hz;have hc1 := hc;clear hu hz hb hc;by_cases hxz : x = z
   ·subst hxz;have HME := kp (List.mem_of_getElem? HZ.o);go_wp2_with fail;go_ret
    exact ⟨_, rfl, ⟨fun _ => HME.o, fun _ => by omega⟩, rfl⟩
   ·have d0 : (x == z) = false := by simpa using hxz
    have HNN := kq (x ∉ zs.take (k + 1)) (by rw [take_snoc HZ.o]; simp only [List.mem_append, List.mem_cons, List.not_mem_nil, or_false]; rintro (h | h); exact hnot.o h; exact hxz h);clear hxz;go_wp2_with fail;go_roundw
    case rel => exact ⟨k + 1, by omega, by go_num, HNN, by first | trivial | rfl⟩
    case measure => simp [intOf]; omega
  ·obtain rfl : k = n := by omega
   have HNA := kq (x ∉ zs) (by have h := hnot.o; rw [List.take_of_length_le (by have := HL.o; omega)] at h; exact h);go_wp2_with fail;go_ret
   exact ⟨_, rfl, ⟨fun h => by omega, fun h => absurd h HNA.o⟩, rfl⟩
theorem contains64_any {A : Option Addr} {n c : Nat} {zs : List Int} {x : Int} (w : World) (hs : Sl w w.heap.size 1 A n (zs.map (Value.int .u64))) (hn : n ≤ 1000000) :
  Calls Tryz.prog 82 #[.slice A n c, .int .u64 x] w fun e w' => e = .returned (.bool (zs.contains x)) ∧ w = w' := by
 have HX := kp (index64_any (A := A) (n := n) (c := c) (zs := zs) (x := x) w hs hn);obtain ⟨q, hq⟩ := xe (zs.contains x);have HQ := kq (q = true ↔ x ∈ zs) (by rw [hq]; exact List.contains_iff_mem);rw [← hq];clear hs hq
 go_enter Tryz.func82, Tryz.ntmps82
 go_wp2_with fail;refine HX.o.mono ?_;rintro e v_ ⟨r, rfl, hr, rfl⟩;rw [← HQ.o] at hr;cases q with
 | true =>
  have h0 : 0 ≤ r := by simpa using hr
  have d0 : decide ((0 : Int) ≤ r) = true := by simpa using h0
  clear hr;go_wp2_with fail;go_ret
  exact ⟨by first | rfl | simp, rfl⟩
 | false =>
  have h0 : ¬ 0 ≤ r := by simpa using hr
  have d0 : decide ((0 : Int) ≤ r) = false := by simpa using h0
  clear hr;go_wp2_with fail;go_ret
  exact ⟨by first | rfl | simp, rfl⟩
end Go.Proofs.YtiijepimkgaccaaGreat

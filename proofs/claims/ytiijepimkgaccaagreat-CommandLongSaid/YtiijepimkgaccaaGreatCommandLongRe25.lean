/- The contract of the document's Put of a transaction. Printed by mkrtput.py. -/
import Derived.Test.YtiijepimkgaccaaGreatCommandLongRe24
import Derived.Defers
import Derived.Recover
set_option linter.unusedSimpArgs false
set_option linter.unusedVariables false
set_option maxRecDepth 100000
set_option maxHeartbeats 16000000
namespace Go.Proofs.YtiijepimkgaccaaGreat
open Go.RowKit Go.Shelf
theorem acc_put {w6 w w3 : World} {Z n m c c' : Nat} {A A' : Option Addr} {acc new : List UInt8} (hz : Grow w6 w) (hZ : Z = w6.heap.size) (ho : OwnAt w Z A n c (acc.map B)) (ho_ : w3.ownsRow Z 5 1 (.slice A' (n + m) c') (n + m) (acc.map B ++ new.map B)) (hg : w.grownBy w3 (A.map Addr.block)) :
  OwnAt w3 Z A' (n + m) c' ((acc ++ new).map B) ∧ Grow w6 w3 := by
 refine ⟨by unfold OwnAt; rw [List.map_append]; exact ho_, ?_⟩;unfold Grow at hz ⊢;exact below_grown hz hg hz.size (fun g hg' => by have := own_from ho g hg'; omega)
theorem nat_ofU {z : Int} (h : U64 z) : ∃ k : Nat, z = (k : Int) ∧ k ≤ 18446744073709551615 ∧ z.toNat = k := ⟨z.toNat, by have := h.1; omega, by have := h.2; omega, rfl⟩
theorem own_neT {w : World} {base n c sz q : Nat} {e T : TypeId} {A : Option Addr} {xs cs : List Value} (h : w.ownsRow base e sz (.slice A n c) n xs) (hb : Blk w q T cs) (hT : T ≠ e) : ∀ k, A.map Addr.block = some k → k ≠ q := by
 intro k hk e1;subst e1;rcases h.2 with ⟨hv, _⟩ | ⟨g, cap, cur, hv, _, hh, _⟩
 ·injection hv with hA; rw [hA] at hk; cases hk
 ·injection hv with hA
  rw [hA] at hk;cases hk
  unfold Blk at hb;rw [hb] at hh;injection hh with hh
  injection hh with _ ht
  exact hT ht
theorem nat_in {z : Int} {m : Nat} (h : 0 ≤ z) (h2 : z ≤ (m : Int)) : ∃ k : Nat, z = (k : Int) ∧ k ≤ m ∧ z.toNat = k := ⟨z.toNat, by omega, by omega, rfl⟩
theorem flat_snoc {α : Type} (f : α → List UInt8) {l : List α} {k : Nat} {p : α} (h : l[k]? = some p) : (l.take (k + 1)).flatMap f = (l.take k).flatMap f ++ f p := by
 rw [take_snoc h, List.flatMap_append]; simp
theorem longI_of {t : Txn} (h : checkT t = 0) : longT t = false := by
 unfold checkT at h;cases hl : longT t with
 | true => rw [hl, if_pos rfl] at h; cases h
 | false => rfl
theorem right_of {t : Txn} (h : checkT t = 0) : t.ins.length ≤ 16 ∧ t.outs.length ≤ 16 ∧ (0 ≤ t.expiry ∧ t.expiry ≤ 1099511627776) ∧ ∀ i ∈ t.ins, i.secret.length ≤ 64 ∧ 0 ≤ i.index ∧ i.index ≤ 15 := by
 have h1 := longI_of h;unfold longT shortT at h1;simp only [Bool.or_eq_false_iff, Bool.not_eq_false', Bool.and_eq_true, inB_iff] at h1;obtain ⟨⟨⟨h2, h3⟩, h4⟩, h5⟩ := h1;refine ⟨by omega, by omega, h4, fun i hi => ?_⟩;have h6 := List.any_eq_false.1 h5 i hi;unfold longI at h6;simp only [Bool.or_eq_true, decide_eq_true_eq, Bool.not_eq_true', not_or, Bool.not_eq_false, inB_iff] at h6;omega
theorem putI_le {i : Inp} (h1 : i.tx.length = 32) (h2 : i.secret.length ≤ 64) (h3 : 0 ≤ i.index ∧ i.index ≤ 15) (h4 : U64 i.amount) : (putI i).length ≤ 123 := by
 have e1 := numB_le (n := i.index.toNat) (by omega);have e2 := numB_le (n := i.amount.toNat) (by have := h4.2; omega);have e3 := numB_le (n := i.secret.length) (by omega);unfold putI;simp only [List.length_append];omega
theorem putO_le {o : Outp} (h : o.ok) : (putO o).length ≤ 41 := by
 have e2 := numB_le (n := o.amount.toNat) (by have := h.2.2; omega);unfold putO;simp only [List.length_append, h.1];omega
theorem flat_le {α : Type} {f : α → List UInt8} {m : Nat} : ∀ {l : List α}, (∀ x ∈ l, (f x).length ≤ m) → (l.flatMap f).length ≤ l.length * m
 | [], _ => by simp
 | x :: l, h => by
  have := flat_le (f := f) (m := m) (l := l) (fun y hy => h y (List.mem_cons_of_mem _ hy));have h2 := h x (List.mem_cons_self ..);rw [List.flatMap_cons, List.length_append, List.length_cons, Nat.add_mul];omega
theorem putTB_le {t : Txn} (hk : t.ok) (h : checkT t = 0) : (putTB t).length ≤ 3000 := by
 obtain ⟨h1, h2, h3, h4⟩ := right_of h;have e1 := flat_le (f := putI) (m := 123) (l := t.ins) (fun i hi => putI_le (hk.1 i hi).1 (h4 i hi).1 (h4 i hi).2 (hk.1 i hi).2.2);have e2 := flat_le (f := putO) (m := 41) (l := t.outs) (fun o ho => putO_le (hk.2.1 o ho));have e3 := numB_le (n := t.ins.length) (by omega);have e4 := numB_le (n := t.outs.length) (by omega);have e5 := numB_le (n := t.fee.toNat) (by have := hk.2.2.1.2; omega);have e6 := numB_le (n := t.expiry.toNat) (by omega);unfold putTB;simp only [List.length_append];omega
open Go.RowKit
structure LkC where
 m : Cmd
 t : List UInt8
 cs : List (List UInt8)
def kindC (k : Int) : Cmd := { noCmd with kind := k }
def lookCm (l : List UInt8) : Rd LkC := match numR 9 l with
 | .error x => .error x
 | .ok (k, l1) =>
  if k = 0 then .error 25
  else if k = 1 then match numR 1099511627776 l1 with
   | .error x => .error x
   | .ok (s, l2) => match takeR 32 l2 with
    | .error x => .error x
    | .ok (d, l3) => match numR 4611686018427387904 l3 with
     | .error x => .error x
     | .ok (a, l4) => .ok (⟨{ kindC 1 with serial := (s : Int), dest := ⟨d, (a : Int)⟩ }, [], []⟩, l4)
  else if k = 2 ∨ k = 3 then match textR 4096 l1 with
   | .error x => .error x
   | .ok (t, l2) => .ok (⟨kindC k, t, []⟩, l2)
  else if k = 4 ∨ k = 5 ∨ k = 6 then match textR 4096 l1 with
   | .error x => .error x
   | .ok (t, l2) => match numR 16 l2 with
    | .error x => .error x
    | .ok (n, l3) => match lookN (textR 2048) n l3 with
     | .error x => .error x
     | .ok (cs, l4) => .ok (⟨kindC k, t, cs⟩, l4)
  else if k = 7 then match numR 1099511627776 l1 with
   | .error x => .error x
   | .ok (e, l2) => .ok (⟨{ kindC 7 with epoch := (e : Int) }, [], []⟩, l2)
  else if k = 9 then match takeR 32 l1 with
   | .error x => .error x
   | .ok (d, l2) => .ok (⟨{ kindC 9 with id := d }, [], []⟩, l2)
  else .ok (⟨kindC k, [], []⟩, l1)
def readCs : List (List UInt8) → Except Nat (List Cer)
 | [] => .ok []
 | t :: ts => match readC t with
  | .error x => .error x
  | .ok c => match readCs ts with
   | .error x => .error x
   | .ok cs => .ok (c :: cs)
def fillC (p : LkC) : Except Nat Cmd := match (if hasTxK p.m.kind then readT p.t else .ok noTxn) with
 | .error x => .error x
 | .ok tx => match readCs p.cs with
  | .error x => .error x
  | .ok cs => .ok { p.m with tx := tx, certs := cs }
def readCm (l : List UInt8) : Except Nat Cmd :=
 if 8192 < l.length then .error 4 else match lookCm l with
 | .error x => .error x
 | .ok (p, t) => if t ≠ [] then .error 3 else fillC p
def cmdOf : Except Nat Cmd → Cmd
 | .error _ => noCmd
 | .ok m => m
theorem assert_broken (v : Value) (xT : TypeId) (w : World) : (Instr.typeAssert (.iface 123 v) xT 123 true).run Tryz.prog w = .ok (.tuple #[v, .bool true]) w := by kernel_rfl
theorem zero_broken : (Tryz.prog.info? 123).map (·.zero) = some (some (.agg [Value.int .i64 0].toArray)) := by kernel_rfl
theorem catch_panicking (g x : Nat) (w : World) (hc : ∃ v, Blk w g 47 [v]) :
  CallsD Tryz.prog 59 #[.pointer (some ⟨g, 0, none⟩)] (.panicking (brk x)) w fun e u' w' =>
   e = .returned (.tuple #[]) ∧ u' = .panicking [{ v := .iface 123 (.agg #[.int .i64 (x : Int)]), recovered := true }] ∧ Blk w' g 47 [.int .i64 (x : Int)] ∧ w.grownBy w' (some g) := by
 have HC := kp hc;unfold brk;refine callsD_of_wpS Tryz.func59 rfl fun c₀ cs hu => ?_
 simp only [Tryz.ntmps59, List.size_toArray, List.length_cons, List.length_nil, Nat.reduceAdd, Nat.reduceSub, Array.replicate_succ, Array.replicate_zero, List.push_toArray, List.append_toArray, List.nil_append, List.cons_append];refine wpS_seq ?_;refine wpS_region ?_;generalize hQ : Exit.thenS _ _ = QQ;simp [wpOpsS, go_sem, recoverD, hu];rw [← hQ];clear hQ;refine wpS_of_wp ?_;generalize hQ : (fun (e : Exit) (a' : Act) (w' : World) => bodyPostS _ _ _ _ _ e a' _ w') = Q2;have HQ := kp hQ;clear hQ;have qa := assert_broken;obtain ⟨v0, hv0⟩ := HC.o;have HV0 := kp hv0;obtain ⟨gb, hgb⟩ := xe w.heap.size;have HGB := kp hgb;have HU := kp hu;clear hv0 hc HC hu;go_wp2_with (with_reducible refine wal 2 zero_broken ?_);intro w1 hb1 hbw1 hsz1;have HB1 := kp hb1;have HBW1 := kp hbw1;rw [← hgb] at HB1 ⊢;clear hb1 hbw1 hsz1 qa hgb;have hge : g ≠ gb := fun e => by have := HV0.o.lt; have := HGB.o; omega
 have HV1 := kp (HV0.o.below HBW1.o (HV0.o.lt));have c0 := HB1.o.at_ (i := 0) rfl;have f0 := HB1.o.frozen 0;have c1 := HV1.o.at_ (i := 0) rfl;have f1 := HV1.o.frozen 0;go_wp2_with fail;rw [← HQ.o];have hs1 := grown_set w1 gb 0 (.int .i64 (x : Int));have hb2 := (HV1.o.grown hs1 (fun e => by injection e with e; exact hge e)).set_ 0 (.int .i64 (x : Int));have hs2 := grown_set (w1.setCell ⟨gb, 0, none⟩ (.int .i64 (x : Int))) g 0 (.int .i64 (x : Int));refine ⟨rfl, _, rfl, _, results_none rfl _ _ _, rfl, rfl, ?_, ?_⟩
 ·simpa using hb2
 ·exact grownBy_trans (grownBy_new (grown_of_below HBW1.o _) hs1 (Nat.le_of_eq HGB.o.symm)) hs2
theorem catch_idle (g : Nat) (w : World) :
  CallsD Tryz.prog 59 #[.pointer (some ⟨g, 0, none⟩)] .returning w fun e u' w' => e = .returned (.tuple #[]) ∧ u' = .returning ∧ w' = w := by
 refine callsD_of_wpS Tryz.func59 rfl fun c₀ cs hu => ?_
 simp only [Tryz.ntmps59, List.size_toArray, List.length_cons, List.length_nil, Nat.reduceAdd, Nat.reduceSub, Array.replicate_succ, Array.replicate_zero, List.push_toArray, List.append_toArray, List.nil_append, List.cons_append];refine wpS_seq ?_;refine wpS_region ?_;generalize hQ : Exit.thenS _ _ = QQ;simp [wpOpsS, go_sem, recoverD, hu];rw [← hQ];clear hQ;refine wpS_of_wp ?_
 go_wp2
 cases c₀
 simp_all [bodyPostS, results, Tryz.results59]
theorem below_put {w w4 w5 : World} {ge : Nat} (h : w4.grownBy w5 (some ge)) (he : ge = w.heap.size) (hl : ge < w4.heap.size) : Below w.heap.size w4 w5 :=
 ⟨h.os, h.tape, h.output, h.size, fun k hk => h.block k (by omega) (fun e => by injection e with e; omega)⟩
theorem door_cell {tmps : Array Value} {w : World} {ge : Nat} {k : IntKind} {z : Int} (hc : w.cell? ⟨ge, 0, none⟩ = some (.int k z)) (ht : tmps[4]?.getD undef = .pointer (some ⟨ge, 0, none⟩) := by rfl) : (results Tryz.f33 tmps).run Tryz.prog w = .ok (.int k z) w := by
 simp [results, Tryz.results33, go_sem, ht, hc]
def eyeErr : Except Nat (List UInt8) → Nat
 | .error x => x
 | .ok [] => 0
 | .ok (_ :: _) => 3
theorem fread_any (A : Option Addr) (n c : Nat) (bs : List UInt8) (F : FuncId) (cap : Array Value) (res : Except Nat (List UInt8)) (Q : World → Prop) (w : World) (hs : Sl w w.heap.size 1 A n (bs.map B)) (hn : n ≤ 1000000)
  (hcf : ∀ (args : Array Value) (w : World), (callFunc F args).run Tryz.prog w = .ok (.enter F args) w)
  (hdo : ∀ w1 Bd g, Grow w w1 → w.heap.size ≤ g → EyeAt w1 (w.heap.size + 1) Bd g bs → Calls Tryz.prog F (#[.pointer (some ⟨g, 0, none⟩)] ++ cap) w1 fun e w2 => Q w2 ∧ w1.heap.size ≤ w2.heap.size ∧ w2.heap[w.heap.size]? = w1.heap[w.heap.size]? ∧
    ((∃ x, res = .error x ∧ e = .panicked (brk x)) ∨ (∃ l', res = .ok l' ∧ e = .returned (.tuple #[]) ∧ EyeAt w2 (w.heap.size + 1) Bd g l'))) :
  Calls Tryz.prog 33 #[.slice A n c, .func (.func F) #[] cap] w fun e w' => e = .returned (.int .i64 (eyeErr res : Int)) ∧ ∃ w2, Q w2 ∧ Below w.heap.size w2 w' := by
 have HS := kp hs;have HDO := kp hdo;clear hs hdo;have hmf : ∀ (fn : Fn) (first cap : Array Value) (w : World), (Instr.makeFunc fn first cap).run Tryz.prog w = .ok (.func fn first cap) w := fun _ _ _ _ => rfl
 obtain ⟨ge, hge⟩ := xe w.heap.size;have HGE := kp hge;clear hge
 go_enter_defers Tryz.func33, Tryz.ntmps33
 go_wp2_with fail;generalize hw1 : World.alloc w _ = w1;obtain ⟨hX, hb, hs⟩ := alloc_eq hw1;rw [← HGE.o] at hX hs ⊢;have HE1 := kp hX;have HG1 := kq (Grow w w1) hb;have HZ1 := kp hs;have HS1 := kp ((HS.o.below HG1.o).more HG1.o.size);clear hX hb hs hw1;refine (bclone_any A n c bs _ HS1.o hn).mono ?_;rintro e w2 ⟨A2, c2, rfl, ho, hc2, hb2⟩;have hbn : bs.length = n := by have := HS.o.len; simpa using this
 have HO2 := kp ho;have HC2 := kp hc2;have HE2 := kp (HE1.o.grow hb2);have HG2 := kp (HG1.o.grow' hb2);have HZ2 := kq (ge + 1 ≤ w2.heap.size) (by have := hb2.size; have := HZ1.o; omega);clear ho hc2 hb2 HE1 HG1 HS1
 have go1 : ∀ (R : Ending → World → Prop) (w3 : World) (g : Nat), g = w2.heap.size → w3 = w2.alloc (.cells #[.slice A2 n c2] 125) →
   (∀ e w4, (Q w4 ∧ w3.heap.size ≤ w4.heap.size ∧ Blk w4 ge 47 [.int .i64 0] ∧ ((∃ x, res = .error x ∧ e = .panicked (brk x)) ∨ (∃ l', res = .ok l' ∧ e = .returned (.tuple #[]) ∧ EyeAt w4 (ge + 1) w3.heap.size g l'))) → R e w4) → Calls Tryz.prog F (#[.pointer (some ⟨g, 0, none⟩)] ++ cap) w3 R := by
  intro R w3 g hg hw3 hR;obtain ⟨hX, hb, hs⟩ := alloc_eq hw3.symm
  have hE : EyeAt w3 (w.heap.size + 1) w3.heap.size g bs := by
   refine ⟨A2, c2, by rw [hbn, hg]; exact hX, by rw [hbn]; exact ((Sl.of_own HO2.o).below hb).more hb.size, by rw [hbn]; exact HC2.o, ?_, by omega, Nat.le_refl _, fun b hA => ?_⟩
   ·have := HZ2.o; have := HGE.o; omega
   ·have h1 := own_from HO2.o b hA;have h2 := own_lt HO2.o b hA;have := HZ1.o; have := HGE.o;exact ⟨by omega, by omega⟩
  refine (HDO.o w3 _ g (HG2.o.grow' hb) (by have := HZ2.o; have := HGE.o; omega) hE).mono ?_;rintro e w4 ⟨hQ, hsz, hk, hr⟩;refine hR e w4 ⟨hQ, hsz, ?_, ?_⟩
  ·unfold Blk;rw [← HGE.o] at hk;rw [hk]; exact HE2.o.grow hb
  ·rw [← HGE.o] at hr; exact hr
 have GO := kp go1;clear go1;go_wp2_with fail;refine GO.o _ _ _ rfl rfl ?_;rintro e w4 ⟨hQ, hsz, hb4, ⟨x, hx, rfl⟩ | ⟨l', hl, rfl, hE⟩⟩
 ·have HQ := kp hQ; have HB4 := kp hb4;have HX := kp hx;have HZ4 := kq (ge < w4.heap.size) hb4.lt;clear hQ hb4 hsz hx;go_wp2_with fail;refine leaves_cons (f := 59) (args := #[.pointer (some ⟨ge, 0, none⟩)]) (by first | simp | decide) (by first | rfl | simp [go_sem]) ?_;refine (catch_panicking ge x _ ⟨_, HB4.o⟩).mono ?_;rintro e u' w5 ⟨rfl, rfl, hb5, hg5⟩;have c5 := hb5.at_ (i := 0) rfl;have hfin : eyeErr res = x := by rw [HX.o]; rfl
  simp only [Leaves, settle, List.dropWhile];refine ⟨_, door_cell c5, ?_, w4, HQ.o, ?_⟩
  ·rw [hfin]
  ·exact below_put hg5 HGE.o HZ4.o
 ·have HQ := kp hQ; have HB4 := kp hb4; have HL := kp hl; have HE := kp hE;clear hQ hb4 hsz hl hE;go_wp2_with fail;refine (eleft_any _ HE.o).mono ?_;rintro e w5 ⟨rfl, rfl⟩;have c0 := HB4.o.at_ (i := 0) rfl;have f0 := HB4.o.frozen 0;cases l' with
  | nil =>
   have d0 : decide ((0 : Int) < (([] : List UInt8).length : Int)) = false := rfl;go_wp2_with fail;refine leaves_cons (f := 59) (args := #[.pointer (some ⟨ge, 0, none⟩)]) (by simp) (by simp [go_sem]) ?_;refine (catch_idle ge _).mono ?_;rintro e u' w5 ⟨rfl, rfl, rfl⟩;have hfin : eyeErr res = 0 := by rw [HL.o]; rfl
   simp only [Leaves, settle];refine ⟨_, door_cell (World.cell?_setCell_same _ _ _ c0), ?_, w4, HQ.o, below_put (grown_set w4 ge 0 _) HGE.o HB4.o.lt⟩;first | (rw [hfin]; rfl) | rw [hfin]
  | cons y l2 =>
   have d0 : decide ((0 : Int) < ((y :: l2).length : Int)) = true := by rw [decide_eq_true_eq, List.length_cons]; omega
   go_wp2_with fail;refine leaves_cons (f := 59) (args := #[.pointer (some ⟨ge, 0, none⟩)]) (by simp) (by simp [go_sem]) ?_;refine (catch_idle ge _).mono ?_;rintro e u' w5 ⟨rfl, rfl, rfl⟩;have hfin : eyeErr res = 3 := by rw [HL.o]; rfl
   simp only [Leaves, settle];refine ⟨_, door_cell (World.cell?_setCell_same _ _ _ c0), ?_, w4, HQ.o, below_put (grown_set w4 ge 0 _) HGE.o HB4.o.lt⟩;first | (rw [hfin]; rfl) | rw [hfin]
end Go.Proofs.YtiijepimkgaccaaGreat

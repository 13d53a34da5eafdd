/- The contract of the document's Put of a transaction. Printed by mkrtput.py. -/
import Derived.Test.YtobmldegjajocaaRe20
set_option linter.unusedSimpArgs false
set_option linter.unusedVariables false
set_option maxRecDepth 100000
set_option maxHeartbeats 16000000
namespace Go.Proofs.Ytobmldegjajocaa
open Go.RowKit Go.Shelf
theorem longI_of {t : Txn} (h : checkT t = 0) : longT t = false := by
 unfold checkT at h;cases hl : longT t with
 | true => rw [hl, if_pos rfl] at h; cases h
 | false => rfl
theorem right_of {t : Txn} (h : checkT t = 0) : t.ins.length ≤ 16 ∧ t.outs.length ≤ 16 ∧ (0 ≤ t.expiry ∧ t.expiry ≤ 1099511627776) ∧ ∀ i ∈ t.ins, i.secret.length ≤ 64 ∧ 0 ≤ i.index ∧ i.index ≤ 15 := by
 have h1 := longI_of h;unfold longT shortT at h1;simp only [Bool.or_eq_false_iff, Bool.not_eq_false', Bool.and_eq_true, inB_iff] at h1;obtain ⟨⟨⟨h2, h3⟩, h4⟩, h5⟩ := h1;refine ⟨by omega, by omega, h4, fun i hi => ?_⟩;have h6 := List.any_eq_false.1 h5 i hi;unfold longI at h6;simp only [Bool.or_eq_true, decide_eq_true_eq, Bool.not_eq_true', not_or, Bool.not_eq_false, inB_iff] at h6;omega
theorem putI_le {i : Inp} (h1 : i.tx.length = 32) (h2 : i.secret.length ≤ 64) (h3 : 0 ≤ i.index ∧ i.index ≤ 15) (h4 : U64 i.amount) : (putI i).length ≤ 123 := by
 have e1 := numB_le (n := i.index.toNat) (by omega);have e2 := numB_le (n := i.amount.toNat) (by have := h4.2; omega);have e3 := numB_le (n := i.secret.length) (by omega);unfold putI;simp only [List.length_append];omega
theorem putO_le {o : Outp} (h : o.ok) : (putO o).length ≤ 41 := by
 have e2 := numB_le (n := o.amount.toNat) (by have := h.2.2; omega);unfold putO;simp only [List.length_append, h.1];omega
theorem flat_le {α : Type} {f : α → List UInt8} {m : Nat} : ∀ {l : List α}, (∀ x ∈ l, (f x).length ≤ m) → (l.flatMap f).length ≤ l.length * m
 | [], _ => by simp
 | x :: l, h => by
  have := flat_le (f := f) (m := m) (l := l) (fun y hy => h y (List.mem_cons_of_mem _ hy));have h2 := h x (List.mem_cons_self ..);rw [List.flatMap_cons, List.length_append, List.length_cons, Nat.add_mul];omega
theorem putTB_le {t : Txn} (hk : t.ok) (h : checkT t = 0) : (putTB t).length ≤ 3000 := by
 obtain ⟨h1, h2, h3, h4⟩ := right_of h;have e1 := flat_le (f := putI) (m := 123) (l := t.ins) (fun i hi => putI_le (hk.1 i hi).1 (h4 i hi).1 (h4 i hi).2 (hk.1 i hi).2.2);have e2 := flat_le (f := putO) (m := 41) (l := t.outs) (fun o ho => putO_le (hk.2.1 o ho));have e3 := numB_le (n := t.ins.length) (by omega);have e4 := numB_le (n := t.outs.length) (by omega);have e5 := numB_le (n := t.fee.toNat) (by have := hk.2.2.1.2; omega);have e6 := numB_le (n := t.expiry.toNat) (by omega);unfold putTB;simp only [List.length_append];omega
open Go.RowKit
structure LkC where
 m : Cmd
 t : List UInt8
 cs : List (List UInt8)
def kindC (k : Int) : Cmd := { noCmd with kind := k }
def lookCm (l : List UInt8) : Re LkC := match numR 9 l with
 | .error x => .error x
 | .ok (k, l1) =>
  if k = 0 then .error 25
  else if k = 1 then match numR 1099511627776 l1 with
   | .error x => .error x
   | .ok (s, l2) => match takeR 32 l2 with
    | .error x => .error x
    | .ok (d, l3) => match numR 4611686018427387904 l3 with
     | .error x => .error x
     | .ok (a, l4) => .ok (⟨{ kindC 1 with serial := (s : Int), dest := ⟨d, (a : Int)⟩ }, [], []⟩, l4)
  else if k = 2 ∨ k = 3 then match textR 4096 l1 with
   | .error x => .error x
   | .ok (t, l2) => .ok (⟨kindC k, t, []⟩, l2)
  else if k = 4 ∨ k = 5 ∨ k = 6 then match textR 4096 l1 with
   | .error x => .error x
   | .ok (t, l2) => match numR 16 l2 with
    | .error x => .error x
    | .ok (n, l3) => match lookN (textR 2048) n l3 with
     | .error x => .error x
     | .ok (cs, l4) => .ok (⟨kindC k, t, cs⟩, l4)
  else if k = 7 then match numR 1099511627776 l1 with
   | .error x => .error x
   | .ok (e, l2) => .ok (⟨{ kindC 7 with epoch := (e : Int) }, [], []⟩, l2)
  else if k = 9 then match takeR 32 l1 with
   | .error x => .error x
   | .ok (d, l2) => .ok (⟨{ kindC 9 with id := d }, [], []⟩, l2)
  else .ok (⟨kindC k, [], []⟩, l1)
def readCs : List (List UInt8) → Except Nat (List Cer)
 | [] => .ok []
 | t :: ts => match readC t with
  | .error x => .error x
  | .ok c => match readCs ts with
   | .error x => .error x
   | .ok cs => .ok (c :: cs)
def fillC (p : LkC) : Except Nat Cmd := match (if hasTxK p.m.kind then readT p.t else .ok noTxn) with
 | .error x => .error x
 | .ok tx => match readCs p.cs with
  | .error x => .error x
  | .ok cs => .ok { p.m with tx := tx, certs := cs }
def readCm (l : List UInt8) : Except Nat Cmd :=
 if 8192 < l.length then .error 4 else match lookCm l with
 | .error x => .error x
 | .ok (p, t) => if t ≠ [] then .error 3 else fillC p
def cmdOf : Except Nat Cmd → Cmd
 | .error _ => noCmd
 | .ok m => m
theorem readCs_back : ∀ (ts : List (List UInt8)) (cs : List Cer), readCs ts = .ok cs → cs.map putCB = ts ∧ ∀ c ∈ cs, c.ok ∧ badCert c = false
 | [], cs, h => by injection h with h; subst h; exact ⟨rfl, by simp⟩
 | t :: ts, cs, h => by
  unfold readCs at h;split at h
  ·cases h
  rename_i c h1;split at h
  ·cases h
  rename_i cs2 h2;injection h with h
  subst h;obtain ⟨k1, k2⟩ := readCs_back ts cs2 h2;have k3 := readC_right h1;refine ⟨by rw [List.map_cons, k1, ← readC_back h1], fun x hx => ?_⟩;rcases List.mem_cons.1 hx with rfl | hx
  ·refine ⟨k3.1, ?_⟩;unfold badCert; rw [k3.2.1, k3.2.2.1]; simp; exact k3.2.2.2
  ·exact k2 x hx
theorem noTxB_no : noTxB noTxn = true := (noTxB_iff _).2 rfl
theorem amt_no : noOutC.amount = 0 := rfl
theorem noOutB_no : noOutB noOutC = true := (noOutB_iff _).2 rfl
theorem wrongs_zero {m : Cmd} (h1 : (wrong1 m || wrong2 m || wrong3 m) = false) (hk : 1 ≤ m.kind ∧ m.kind ≤ 9) (hc : m.certs.length ≤ 16) (ht : hasTxK m.kind = true → checkT m.tx = 0) (hb : ∀ c ∈ m.certs, badCert c = false) : checkC m = 0 := by
 unfold checkC;rw [if_neg (by omega), if_neg (by simp [h1]), if_neg (by omega)]
 have e : (hasTxK m.kind && !decide (checkT m.tx = 0)) = false := by
  cases h : hasTxK m.kind with
  | false => rfl
  | true => simp [ht h]
 have e2 : m.certs.any badCert = false := by rw [List.any_eq_false]; intro x hx; simp [hb x hx]
 rw [e, e2]; simp
theorem flat_texts {cs : List Cer} {ts : List (List UInt8)} (h : cs.map putCB = ts) : ts.flatMap (fun b => numB b.length ++ b) = cs.flatMap certText := by
 subst h
 induction cs with
 | nil => rfl
 | cons c cs ih => simp only [List.map_cons, List.flatMap_cons, ih]; rfl
theorem readCm_back {l : List UInt8} {m : Cmd} (h : readCm l = .ok m) : l = putCm m ∧ checkC m = 0 ∧ l.length ≤ 8192 := by
 unfold readCm at h;split at h
 ·cases h
 rename_i hl;split at h
 ·cases h
 rename_i p t hk;split at h
 ·cases h
 rename_i ht;simp at ht;subst ht;refine (fun (H : l = putCm m ∧ checkC m = 0) => ⟨H.1, H.2, by omega⟩) ?_;unfold fillC at h;split at h
 ·cases h
 rename_i tx htx;split at h
 ·cases h
 rename_i cs hcs;injection h with h
 subst h;unfold lookCm at hk;split at hk
 ·cases hk
 rename_i k l1 h1;have hk9 := (numR_le h1).1;have hb := numR_back h1;obtain ⟨c1, c2⟩ := readCs_back _ _ hcs;split at hk
 ·cases hk
 rename_i hk0;split at hk
 ·
  rename_i hk1;subst hk1;split at hk
  ·cases hk
  rename_i j1;split at hk
  ·cases hk
  rename_i j2;split at hk
  ·cases hk
  rename_i j3;injection hk with hk; injection hk with e1 e2
  subst e1; subst e2;simp only at htx c1 ⊢;have hcs0 : cs = [] := by simpa using c1
  subst hcs0;have e : hasTxK (1 : Int) = false := rfl
  have htx0 : tx = noTxn := by
   simp only [kindC, e, if_false, Bool.false_eq_true] at htx;injection htx with htx; exact htx.symm
  subst htx0;have n1 := numR_le j1; have n3 := numR_le j3;constructor
  ·rw [hb, numR_back j1, takeR_back j2, numR_back j3];unfold putCm txPart certPart;simp [kindC, hasTxK, hasCK]
  ·refine wrongs_zero ?_ (by simp [kindC]) (by simp) (fun h => by simp [kindC, hasTxK] at h) (by simp);unfold wrong1 wrong2 wrong3;simp [kindC, noCmd, noTxB_no, hasTxK, hasCK];omega
 rename_i hk1;split at hk
 ·
  rename_i hk23;split at hk
  ·cases hk
  rename_i j1;injection hk with hk; injection hk with e1 e2
  subst e1; subst e2;simp only at htx c1 ⊢;have hcs0 : cs = [] := by simpa using c1
  subst hcs0;have e : hasTxK (k : Int) = true := by unfold hasTxK; simp; omega
  have e2 : hasCK (k : Int) = false := by unfold hasCK; simp; omega
  simp only [kindC, e, if_true] at htx;obtain ⟨r1, r2, r3⟩ := readT_back htx;constructor
  ·rw [hb, textR_back j1, r1];unfold putCm txPart certPart;have h1 : ¬ ((k : Int) = 1) := by omega
   have h7 : ¬ ((k : Int) = 7) := by omega
   have h9 : ¬ ((k : Int) = 9) := by omega
   simp [kindC, e, e2, h1, h7, h9]
  ·refine wrongs_zero ?_ (by simp [kindC]; omega) (by simp) (fun _ => r2) (by simp);unfold wrong1 wrong2 wrong3;simp [kindC, noCmd, noOutB_no, e, e2, amt_no]
 rename_i hk23;split at hk
 ·
  rename_i hk46;split at hk
  ·cases hk
  rename_i j1;split at hk
  ·cases hk
  rename_i j2;split at hk
  ·cases hk
  rename_i j3;injection hk with hk; injection hk with e1 e2
  subst e1; subst e2;simp only at htx c1 ⊢;have e : hasTxK (k : Int) = true := by unfold hasTxK; simp; omega
  have e2 : hasCK (k : Int) = true := by unfold hasCK; simp; omega
  simp only [kindC, e, if_true] at htx;obtain ⟨r1, r2, r3⟩ := readT_back htx;obtain ⟨s1, s2⟩ := lookN_back (p := fun b => numB b.length ++ b) (fun l a t h => textR_back h) _ _ _ _ j3;have hcl := s2;rw [← c1, List.length_map] at hcl;have n2 := numR_le j2;constructor
  ·rw [hb, textR_back j1, numR_back j2, s1, r1, flat_texts c1];unfold putCm txPart certPart;have h1 : ¬ ((k : Int) = 1) := by omega
   have h7 : ¬ ((k : Int) = 7) := by omega
   have h9 : ¬ ((k : Int) = 9) := by omega
   simp [kindC, e, e2, h1, h7, h9, hcl]
  ·refine wrongs_zero ?_ (by simp [kindC]; omega) (by simp only [hcl]; omega) (fun _ => r2) (fun c hc => (c2 c hc).2);unfold wrong1 wrong2 wrong3;simp [kindC, noCmd, noOutB_no, e, e2, amt_no]
 rename_i hk46;split at hk
 ·
  rename_i hk7;subst hk7;split at hk
  ·cases hk
  rename_i j1;injection hk with hk; injection hk with e1 e2
  subst e1; subst e2;simp only at htx c1 ⊢;have hcs0 : cs = [] := by simpa using c1
  subst hcs0;have e : hasTxK (7 : Int) = false := rfl
  have htx0 : tx = noTxn := by
   simp only [kindC, e, if_false, Bool.false_eq_true] at htx;injection htx with htx; exact htx.symm
  subst htx0;have n1 := numR_le j1;constructor
  ·rw [hb, numR_back j1];unfold putCm txPart certPart;simp [kindC, hasTxK, hasCK]
  ·refine wrongs_zero ?_ (by simp [kindC]) (by simp) (fun h => by simp [kindC, hasTxK] at h) (by simp);unfold wrong1 wrong2 wrong3;simp [kindC, noCmd, noTxB_no, noOutB_no, hasTxK, hasCK, amt_no];omega
 rename_i hk7;split at hk
 ·
  rename_i hk9';subst hk9';split at hk
  ·cases hk
  rename_i j1;injection hk with hk; injection hk with e1 e2
  subst e1; subst e2;simp only at htx c1 ⊢;have hcs0 : cs = [] := by simpa using c1
  subst hcs0;have e : hasTxK (9 : Int) = false := rfl
  have htx0 : tx = noTxn := by
   simp only [kindC, e, if_false, Bool.false_eq_true] at htx;injection htx with htx; exact htx.symm
  subst htx0;constructor
  ·rw [hb, takeR_back j1];unfold putCm txPart certPart;simp [kindC, hasTxK, hasCK]
  ·refine wrongs_zero ?_ (by simp [kindC]) (by simp) (fun h => by simp [kindC, hasTxK] at h) (by simp);unfold wrong1 wrong2 wrong3;simp [kindC, noCmd, noTxB_no, noOutB_no, hasTxK, hasCK, amt_no]
 ·
  rename_i hk9';injection hk with hk; injection hk with e1 e2
  subst e1; subst e2;simp only at htx c1 ⊢;have hcs0 : cs = [] := by simpa using c1
  subst hcs0;obtain rfl : k = 8 := by omega
  have e : hasTxK (8 : Int) = false := rfl
  have htx0 : tx = noTxn := by
   have htx2 : (if hasTxK (kindC ((8 : Nat) : Int)).kind = true then readT [] else Except.ok noTxn) = Except.ok tx := htx;rw [if_neg (by decide)] at htx2;injection htx2 with htx2; exact htx2.symm
  subst htx0;constructor
  ·rw [hb];unfold putCm txPart certPart;simp [kindC, hasTxK, hasCK]
  ·refine wrongs_zero ?_ (by simp [kindC]) (by simp) (fun h => by simp [kindC, hasTxK] at h) (by simp);unfold wrong1 wrong2 wrong3;simp [kindC, noCmd, noTxB_no, noOutB_no, hasTxK, hasCK, amt_no]
end Go.Proofs.Ytobmldegjajocaa

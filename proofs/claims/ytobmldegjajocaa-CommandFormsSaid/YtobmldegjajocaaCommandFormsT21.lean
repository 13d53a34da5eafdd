/- The contract of the document's Put of a transaction. Printed by mkrtput.py. -/
import Derived.Test.YtobmldegjajocaaCommandFormsT17
import Derived.Test.YtobmldegjajocaaCommandFormsT19
import Derived.Test.YtobmldegjajocaaCommandFormsT6
import Derived.Test.YtobmldegjajocaaCommandFormsT20
import Derived.Test.YtobmldegjajocaaCommandFormsT14
set_option linter.unusedSimpArgs false
/- The contract of the document's Put of a transaction. Printed by mkrtput.py. -/
namespace Go.Proofs.Ytobmldegjajocaa
open Go.RowKit Go.Shelf
set_option linter.unusedVariables false
theorem acc_put {w6 w w3 : World} {Z n m c c' : Nat} {A A' : Option Addr} {acc new : List UInt8} (hz : Grow w6 w) (hZ : Z = w6.heap.size) (ho : OwnAt w Z A n c (acc.map B)) (ho_ : w3.ownsRow Z 5 1 (.slice A' (n + m) c') (n + m) (acc.map B ++ new.map B)) (hg : w.grownBy w3 (A.map Addr.block)) :
    OwnAt w3 Z A' (n + m) c' ((acc ++ new).map B) ∧ Grow w6 w3 := by
  refine ⟨by unfold OwnAt; rw [List.map_append]; exact ho_, ?_⟩
  unfold Grow at hz ⊢
  exact below_grown hz hg hz.size (fun g hg' => by have := own_from ho g hg'; omega)
theorem nat_ofU {z : Int} (h : U64 z) : ∃ k : Nat, z = (k : Int) ∧ k ≤ 18446744073709551615 ∧ z.toNat = k := ⟨z.toNat, by have := h.1; omega, by have := h.2; omega, rfl⟩
theorem own_neT {w : World} {base n c sz q : Nat} {e T : TypeId} {A : Option Addr} {xs cs : List Value} (h : w.ownsRow base e sz (.slice A n c) n xs) (hb : Blk w q T cs) (hT : T ≠ e) : ∀ k, A.map Addr.block = some k → k ≠ q := by
  intro k hk e1
  subst e1
  rcases h.2 with ⟨hv, _⟩ | ⟨g, cap, cur, hv, _, hh, _⟩
  · injection hv with hA; rw [hA] at hk; cases hk
  · injection hv with hA
    rw [hA] at hk
    cases hk
    unfold Blk at hb
    rw [hb] at hh
    injection hh with hh
    injection hh with _ ht
    exact hT ht
theorem nat_in {z : Int} {m : Nat} (h : 0 ≤ z) (h2 : z ≤ (m : Int)) : ∃ k : Nat, z = (k : Int) ∧ k ≤ m ∧ z.toNat = k := ⟨z.toNat, by omega, by omega, rfl⟩
theorem flat_snoc {α : Type} (f : α → List UInt8) {l : List α} {k : Nat} {p : α} (h : l[k]? = some p) : (l.take (k + 1)).flatMap f = (l.take k).flatMap f ++ f p := by
  rw [take_snoc h, List.flatMap_append]; simp
end Go.Proofs.Ytobmldegjajocaa
/- Contracts of tx.Id, the document's Id, and its Great. -/
namespace Go.Proofs.Ytobmldegjajocaa
open Go.RowKit Go.Shelf
set_option linter.unusedVariables false
theorem longI_of {t : Txn} (h : checkT t = 0) : longT t = false := by
  unfold checkT at h
  cases hl : longT t with
  | true => rw [hl, if_pos rfl] at h; cases h
  | false => rfl
/-- What a right transaction is. -/
theorem right_of {t : Txn} (h : checkT t = 0) : t.ins.length ≤ 16 ∧ t.outs.length ≤ 16 ∧ (0 ≤ t.expiry ∧ t.expiry ≤ 1099511627776) ∧ ∀ i ∈ t.ins, i.secret.length ≤ 64 ∧ 0 ≤ i.index ∧ i.index ≤ 15 := by
  have h1 := longI_of h
  unfold longT shortT at h1
  simp only [Bool.or_eq_false_iff, Bool.not_eq_false', Bool.and_eq_true, inB_iff] at h1
  obtain ⟨⟨⟨h2, h3⟩, h4⟩, h5⟩ := h1
  refine ⟨by omega, by omega, h4, fun i hi => ?_⟩
  have h6 := List.any_eq_false.1 h5 i hi
  unfold longI at h6
  simp only [Bool.or_eq_true, decide_eq_true_eq, Bool.not_eq_true', not_or, Bool.not_eq_false, inB_iff] at h6
  omega
theorem putI_le {i : Inp} (h1 : i.tx.length = 32) (h2 : i.secret.length ≤ 64) (h3 : 0 ≤ i.index ∧ i.index ≤ 15) (h4 : U64 i.amount) : (putI i).length ≤ 123 := by
  have e1 := numB_le (n := i.index.toNat) (by omega)
  have e2 := numB_le (n := i.amount.toNat) (by have := h4.2; omega)
  have e3 := numB_le (n := i.secret.length) (by omega)
  unfold putI
  simp only [List.length_append]
  omega
theorem putO_le {o : Outp} (h : o.ok) : (putO o).length ≤ 41 := by
  have e2 := numB_le (n := o.amount.toNat) (by have := h.2.2; omega)
  unfold putO
  simp only [List.length_append, h.1]
  omega
theorem flat_le {α : Type} {f : α → List UInt8} {m : Nat} : ∀ {l : List α}, (∀ x ∈ l, (f x).length ≤ m) → (l.flatMap f).length ≤ l.length * m
  | [], _ => by simp
  | x :: l, h => by
    have := flat_le (f := f) (m := m) (l := l) (fun y hy => h y (List.mem_cons_of_mem _ hy))
    have h2 := h x (List.mem_cons_self ..)
    rw [List.flatMap_cons, List.length_append, List.length_cons, Nat.add_mul]
    omega
theorem putTB_le {t : Txn} (hk : t.ok) (h : checkT t = 0) : (putTB t).length ≤ 3000 := by
  obtain ⟨h1, h2, h3, h4⟩ := right_of h
  have e1 := flat_le (f := putI) (m := 123) (l := t.ins) (fun i hi => putI_le (hk.1 i hi).1 (h4 i hi).1 (h4 i hi).2 (hk.1 i hi).2.2)
  have e2 := flat_le (f := putO) (m := 41) (l := t.outs) (fun o ho => putO_le (hk.2.1 o ho))
  have e3 := numB_le (n := t.ins.length) (by omega)
  have e4 := numB_le (n := t.outs.length) (by omega)
  have e5 := numB_le (n := t.fee.toNat) (by have := hk.2.2.1.2; omega)
  have e6 := numB_le (n := t.expiry.toNat) (by omega)
  unfold putTB
  simp only [List.length_append]
  omega
/-- Is there more than is looked at? -/
def greatT (t : Txn) : Bool := decide (20 < t.ins.length) || decide (20 < t.outs.length) || t.ins.any (fun i => decide (100 < i.secret.length))
set_option maxRecDepth 100000 in
set_option maxHeartbeats 4000000 in
theorem rtgreat_any {A : Option Addr} {n c : Nat} {A2 : Option Addr} {n2 c2 : Nat} {fee ex : Int} {l : List (Value × Inp)} {os : List Outp} (w : World) (hi : InsAt w A n c l) (ho : os.length = n2) (hn : n ≤ 9223372036854775807) (hn2 : n2 ≤ 9223372036854775807) :
    Calls Try.prog 20 #[.agg (txV A n c A2 n2 c2 fee ex).toArray] w fun e w' => e = .returned (.int .i64 (if greatT ⟨l.map Prod.snd, os, fee, ex⟩ then 1 else 0)) ∧ Grow w w' := by
  have HI := Lib.hid hi
  have HTC := Lib.hid (txV_cl (A := A) (n := n) (c := c) (A2 := A2) (n2 := n2) (c2 := c2) (fee := fee) (ex := ex))
  have HT0 := Lib.hid (show (txV A n c A2 n2 c2 fee ex)[0]? = some (.slice A n c) from rfl)
  have HT1 := Lib.hid (show (txV A n c A2 n2 c2 fee ex)[1]? = some (.slice A2 n2 c2) from rfl)
  obtain ⟨gr, hgr⟩ : ∃ q, q = greatT ⟨l.map Prod.snd, os, fee, ex⟩ := ⟨_, rfl⟩
  obtain ⟨ins, hins⟩ : ∃ q, q = l.map Prod.snd := ⟨_, rfl⟩
  have HINS := Lib.hid hins
  have HIL := Lib.hid (show ins.length = n by rw [hins, List.length_map]; exact hi.2.2.1)
  have HGR := Lib.hid (show gr = (decide (20 < n) || decide (20 < n2) || ins.any (fun i => decide (100 < i.secret.length))) by rw [hgr, hins]; unfold greatT; simp only [List.length_map]; rw [hi.2.2.1, ho])
  rw [← hgr]
  obtain ⟨gz, hgz⟩ : ∃ z : Int, z = if gr then 1 else 0 := ⟨_, rfl⟩
  have HGZ := Lib.hid hgz
  rw [← hgz]
  obtain ⟨tv, htv⟩ : ∃ q, q = txV A n c A2 n2 c2 fee ex := ⟨_, rfl⟩
  rw [← htv] at HTC HT0 HT1 ⊢
  obtain ⟨w_, hw⟩ : ∃ x, x = w := ⟨_, rfl⟩
  have HB := Lib.hid (show Below w.heap.size w w_ by rw [hw]; exact Below.refl _ _)
  suffices H : Calls Try.prog 20 #[.agg tv.toArray] w_ fun e w' => e = .returned (.int .i64 gz) ∧ Grow w w' by rw [hw] at H; exact H
  clear hw hi ho htv hgr hins hgz
  go_enter Try.func20, Try.ntmps20
  go_wp2_with (first | (with_reducible refine wpl_box (o := ⟨some 1, _, _, _, _, _⟩) rfl rfl rfl ?_))
  intro w2_ hb2_ hb_ hsz2_
  have HX_ := Lib.hid (at_mk hb2_ HTC.out.len)
  clear hb2_ hsz2_
  have HG_ := Lib.hid HB.out.size
  have HB_ := Lib.hid (HB.out.grow' hb_)
  clear HB
  have HB := HB_
  clear HB_
  generalize hg_ : w_.heap.size = g1 at HX_ HG_ ⊢
  clear hg_
  have HX_g := HG_
  clear HG_
  have HX := HX_
  clear hb_ HX_
  try clear w_
  rename World => w_
  have c0 := HX.out.blk.at_ HT0.out
  have c1 := HX.out.blk.at_ HT1.out
  by_cases h1 : n ≤ 20
  · by_cases h2 : n2 ≤ 20
    · have b1 : ¬ (20 < (n : Int)) := by omega
      have b2 : ¬ (20 < (n2 : Int)) := by omega
      have HGE := Lib.hid (show gr = ins.any (fun i => decide (100 < i.secret.length)) by rw [HGR.out, decide_eq_false (by omega), decide_eq_false (by omega)]; rfl)
      go_wp2_with fail
      go_loopw [3] (fun iv wr => ∃ k : Nat, k ≤ n ∧ iv = .int .i64 k ∧ Hid ((ins.take k).any (fun i => decide (100 < i.secret.length)) = false) ∧ wr = w_) (fun iv _ => n - (intOf iv).toNat)
      case atStart => exact ⟨0, by omega, rfl, Lib.hid (by simp), rfl⟩
      case round =>
        obtain ⟨k, hk, rfl, hany, rfl⟩ := hrel
        by_cases hlt : k < n
        · obtain ⟨b, off, p, rfl, hp, hok, hc⟩ := HI.out.at_ hlt
          obtain ⟨⟨As, cs, es, _, _⟩, hio⟩ := hok
          have c34 := bcell HB.out (hc 34 _ (in_at (v := p.1) hio).2.2)
          rw [es] at c34
          have HSN := Lib.hid (any_take (fun i : Inp => decide (100 < i.secret.length)) (l := ins) (k := k) (p := p.2) (by rw [HINS.out, List.getElem?_map, hp]; rfl))
          have HME := Lib.hid (show p.2 ∈ ins by rw [HINS.out]; exact List.mem_map_of_mem (List.mem_of_getElem? hp))
          obtain ⟨sl, hsl⟩ : ∃ q, q = p.2.secret.length := ⟨_, rfl⟩
          have HSL := Lib.hid hsl
          rw [← hsl] at c34
          have v1 : IntKind.i64.wrap ((k : Int) + 1) = (k : Int) + 1 := IntWalk.i64_in _ (by omega)
          clear hp hc hio es hsl
          by_cases h100 : sl ≤ 100
          · have b3 : ¬ (100 < (sl : Int)) := by omega
            have HNX := Lib.hid (show (ins.take (k + 1)).any (fun i => decide (100 < i.secret.length)) = false by rw [HSN.out, hany.out, ← HSL.out, decide_eq_false (by omega)]; rfl)
            go_wp2_with fail
            go_roundw
            all_goals clear v1
            case rel => exact ⟨k + 1, by omega, by go_num, HNX, by first | trivial | rfl⟩
            case measure => simp [intOf]; omega
          · have b3 : (100 < (sl : Int)) := by omega
            have HG1 := Lib.hid (show gr = true by rw [HGE.out]; exact List.any_eq_true.2 ⟨_, HME.out, by rw [← HSL.out]; simp; omega⟩)
            clear v1
            go_wp2_with fail
            go_ret
            exact ⟨by rw [HGZ.out, HG1.out]; rfl, HB.out⟩
        · obtain rfl : k = n := by omega
          have HG1 := Lib.hid (show gr = false by rw [HGE.out]; have h := hany.out; rw [List.take_of_length_le (by rw [HIL.out]; exact Nat.le_refl _)] at h; exact h)
          go_wp2_with fail
          go_ret
          exact ⟨by rw [HGZ.out, HG1.out]; rfl, HB.out⟩
    · have b1 : ¬ (20 < (n : Int)) := by omega
      have b2 : (20 < (n2 : Int)) := by omega
      have HG1 := Lib.hid (show gr = true by rw [HGR.out, decide_eq_true (show 20 < n2 by omega)]; simp)
      go_wp2_with fail
      go_ret
      exact ⟨by rw [HGZ.out, HG1.out]; rfl, HB.out⟩
  · have b1 : (20 < (n : Int)) := by omega
    have HG1 := Lib.hid (show gr = true by rw [HGR.out, decide_eq_true (show 20 < n by omega)]; simp)
    go_wp2_with fail
    go_ret
    exact ⟨by rw [HGZ.out, HG1.out]; rfl, HB.out⟩
end Go.Proofs.Ytobmldegjajocaa
/- Commands read of bytes (plain): what is looked at, what is read; reading is the inverse of writing. No program in sight. -/
namespace Go.Proofs.Ytobmldegjajocaa
open Go.RowKit
set_option linter.unusedVariables false
/-- What a command's eye has seen: the command without transaction and certificates, the texts of these. -/
structure LkC where
  m : Cmd
  t : List UInt8
  cs : List (List UInt8)
def kindC (k : Int) : Cmd := { noCmd with kind := k }
def lookCm (l : List UInt8) : Rd LkC := match numR 9 l with
  | .error x => .error x
  | .ok (k, l1) =>
    if k = 0 then .error 25
    else if k = 1 then match numR 1099511627776 l1 with
      | .error x => .error x
      | .ok (s, l2) => match takeR 32 l2 with
        | .error x => .error x
        | .ok (d, l3) => match numR 4611686018427387904 l3 with
          | .error x => .error x
          | .ok (a, l4) => .ok (⟨{ kindC 1 with serial := (s : Int), dest := ⟨d, (a : Int)⟩ }, [], []⟩, l4)
    else if k = 2 ∨ k = 3 then match textR 4096 l1 with
      | .error x => .error x
      | .ok (t, l2) => .ok (⟨kindC k, t, []⟩, l2)
    else if k = 4 ∨ k = 5 ∨ k = 6 then match textR 4096 l1 with
      | .error x => .error x
      | .ok (t, l2) => match numR 16 l2 with
        | .error x => .error x
        | .ok (n, l3) => match lookN (textR 2048) n l3 with
          | .error x => .error x
          | .ok (cs, l4) => .ok (⟨kindC k, t, cs⟩, l4)
    else if k = 7 then match numR 1099511627776 l1 with
      | .error x => .error x
      | .ok (e, l2) => .ok (⟨{ kindC 7 with epoch := (e : Int) }, [], []⟩, l2)
    else if k = 9 then match takeR 32 l1 with
      | .error x => .error x
      | .ok (d, l2) => .ok (⟨{ kindC 9 with id := d }, [], []⟩, l2)
    else .ok (⟨kindC k, [], []⟩, l1)
/-- The certificates of these texts. -/
def readCs : List (List UInt8) → Except Nat (List Cer)
  | [] => .ok []
  | t :: ts => match readC t with
    | .error x => .error x
    | .ok c => match readCs ts with
      | .error x => .error x
      | .ok cs => .ok (c :: cs)
def fillC (p : LkC) : Except Nat Cmd := match (if hasTxK p.m.kind then readT p.t else .ok noTxn) with
  | .error x => .error x
  | .ok tx => match readCs p.cs with
    | .error x => .error x
    | .ok cs => .ok { p.m with tx := tx, certs := cs }
def readCm (l : List UInt8) : Except Nat Cmd :=
  if 8192 < l.length then .error 4 else match lookCm l with
  | .error x => .error x
  | .ok (p, t) => if t ≠ [] then .error 3 else fillC p
def cmdOf : Except Nat Cmd → Cmd
  | .error _ => noCmd
  | .ok m => m
end Go.Proofs.Ytobmldegjajocaa

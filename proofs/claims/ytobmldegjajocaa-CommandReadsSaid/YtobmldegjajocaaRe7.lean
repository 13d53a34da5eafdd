/- A region that draws its order, walked once in the order of the text: what acts (calls, new rows) yields a value of a form given ahead (Sp) with a fact that lasts while memory grows; no order need be looked at. No program in sight. -/
import Derived.Test.YtobmldegjajocaaRe6
set_option linter.unusedSimpArgs false
set_option linter.unusedVariables false
set_option maxRecDepth 100000
set_option maxHeartbeats 16000000
namespace Go.Proofs.Ytobmldegjajocaa
open Go.RowKit
structure Sp where
 X : Type
 d : X
 val : X → Value
 ok : X → World → Prop
 st : ∀ x w w', ok x w → Grow w w' → ok x w'
def spV (v : Value) : Sp := ⟨Unit, (), fun _ => v, fun _ _ => True, fun _ _ _ _ _ => trivial⟩
def vwp (P : Program) (o : Oper) (a : Act) (w : World) (R : Value → World → Prop) : Prop :=
 match (execOp a.eval o).run P w with
 | .ok (.value v) w' => R v w'
 | .ok .skip w' => R undef w'
 | .ok (.enter f args) w' => Calls P f args w' fun e w'' => ∃ v, e = .returned v ∧ R v w''
 | .ok (.row row args) w' => Rows P row args w' R
 | _ => False
theorem vwp_same {P : Program} {o : Oper} {a a' : Act} {w : World} {R : Value → World → Prop} (he : execOp a'.eval o = execOp a.eval o) (hh : vwp P o a w R) : vwp P o a' w R := by
 unfold vwp at *; rw [he]; exact hh
theorem wp_of_vwp {P : Program} {o : Oper} {a : Act} {w : World} {R : Value → World → Prop} {K : Act → World → Prop} {Q : Exit → Act → World → Prop} (hh : vwp P o a w R) (h : ∀ v w', R v w' → K (a.put o.dst v) w') : o.wp P a w K Q := by
 unfold vwp at hh;unfold Oper.wp;generalize (execOp a.eval o).run P w = r at *;cases r with
 | ok n w' =>
  cases n <;> simp only [Oper.upon] at hh ⊢
  case value => exact h _ _ hh
  case skip => exact h _ _ hh
  case enter f args =>
   refine Calls.mono hh fun e w'' he => ?_
   obtain ⟨v, rfl, hv⟩ := he;exact h _ _ hv
  case row => exact Rows.mono hh fun _ _ he => h _ _ he
 | halt x w' => simp at hh
def fAnc (am : List Nat) (i k : Nat) : Bool := decide (k < i) && (am.getD i 0).testBit k
section
variable (P : Program) (md : Region.Mode) (ops : Array Oper) (am cl : List Nat) (sp : Nat → Sp) (w0 : World) (Q : Exit → Act → World → Prop)
def flA (am : List Nat) (L : List (Nat × (World → Prop))) (i : Nat) (w : World) : Prop := ∀ p ∈ L, fAnc am i p.1 = true → p.2 w
def wpL : List Nat → Act → List (Nat × (World → Prop)) → Prop
 | [], a, L => ∀ w, Grow w0 w → (∀ p ∈ L, p.2 w) → Q .normal a w
 | i :: us, a, L => match ops[i]? with
  | none => False
  | some o => if Region.wanted o (yielded ops a.tmps) then
    (if plCls cl i ≤ 2 then ∃ v, (∀ w, Grow w0 w → flA am L i w → (execOp a.eval o).run P w = .ok (.value v) w) ∧ wpL us (a.put o.dst v) L
    else (∀ w, Grow w0 w → flA am L i w → vwp P o a w fun v w' => Grow w w' ∧ ∃ x, v = (sp i).val x ∧ (sp i).ok x w') ∧ ∀ x, wpL us (a.put o.dst ((sp i).val x)) (L ++ [(i, (sp i).ok x)]))
   else wpL us (a.put o.dst undef) L
def flowB : Bool := Region.noSelect ops && (List.range ops.size).all fun i => match ops[i]? with
 | none => false
 | some o => (o.after.all fun e => !Region.binds md e || decide (e.on < i)) && (List.range i).all fun k => if fAnc am i k then (o.after.any fun e => Region.binds md e && (e.on == k || fAnc am e.on k)) else (match ops[k]? with | none => false | some ok => o.apart ops ok)
end
section
variable {P : Program} {md : Region.Mode} {ops : Array Oper} {am cl : List Nat} {sp : Nat → Sp} {w0 : World} {Q : Exit → Act → World → Prop}
theorem flA_mono {L L' : List (Nat × (World → Prop))} (h : ∀ p ∈ L, p ∈ L') {i : Nat} {w : World} (hh : flA am L' i w) : flA am L i w := fun p hp => hh p (h p hp)
theorem wpL_mono : ∀ (us : List Nat) (a : Act) (L L' : List (Nat × (World → Prop))), (∀ p ∈ L, p ∈ L') → wpL P ops am cl sp w0 Q us a L → wpL P ops am cl sp w0 Q us a L'
 | [], a, L, L', h, hh => fun w hg hf => hh w hg fun p hp => hf p (h p hp)
 | i :: us, a, L, L', h, hh => by
  unfold wpL at hh ⊢;cases ho : ops[i]? with
  | none => rw [ho] at hh; exact hh.elim
  | some o =>
   rw [ho] at hh;simp only at hh ⊢;split
   ·rename_i hw;rw [if_pos hw] at hh;split
    ·rename_i hc;rw [if_pos hc] at hh;obtain ⟨v, h1, h2⟩ := hh;exact ⟨v, fun w hg hf => h1 w hg (flA_mono h hf), wpL_mono us _ L L' h h2⟩
    ·rename_i hc;rw [if_neg hc] at hh;refine ⟨fun w hg hf => hh.1 w hg (flA_mono h hf), fun x => wpL_mono us _ _ _ (fun p hp => ?_) (hh.2 x)⟩;rcases List.mem_append.1 hp with hp | hp
     ·exact List.mem_append.2 (.inl (h p hp))
     ·exact List.mem_append.2 (.inr hp)
   ·rename_i hw;rw [if_neg hw] at hh;exact wpL_mono us _ L L' h hh
def flDo (P : Program) (ops : Array Oper) (cl : List Nat) (sp : Nat → Sp) (i : Nat) (a : Act) (w : World) : Prop :=
 match ops[i]? with
 | none => False
 | some o => Region.wanted o (yielded ops a.tmps) = true → if plCls cl i ≤ 2 then ∃ v, (execOp a.eval o).run P w = .ok (.value v) w else vwp P o a w fun v w' => Grow w w' ∧ ∃ x, v = (sp i).val x ∧ (sp i).ok x w'
def flRes (P : Program) (ops : Array Oper) (cl : List Nat) (sp : Nat → Sp) (i : Nat) (o : Oper) (a : Act) (w : World) (v : Value) (Lx : List (Nat × (World → Prop))) : Prop :=
 if Region.wanted o (yielded ops a.tmps) then (if plCls cl i ≤ 2 then (execOp a.eval o).run P w = .ok (.value v) w ∧ Lx = [] else ∃ x, v = (sp i).val x ∧ Lx = [(i, (sp i).ok x)]) else v = undef ∧ Lx = []
theorem keep_put {oi ok : Oper} (hsel : ∀ cs b, oi.op ≠ .select cs b) (h3 : ∀ d, ok.dst = some d → d ∉ oi.looksAt ops) (a : Act) (u : Value) :
  execOp (a.put ok.dst u).eval oi = execOp a.eval oi ∧ Region.wanted oi (yielded ops (a.put ok.dst u).tmps) = Region.wanted oi (yielded ops a.tmps) := ⟨execOp_put oi hsel a ok.dst u h3, wanted_put oi a ok.dst u h3⟩
theorem fl_do {i : Nat} {oi : Oper} (hi : ops[i]? = some oi) (hsel : ∀ (j : Nat) (o : Oper) cs b, ops[j]? = some o → o.op ≠ .select cs b) {post : List Nat} {w : World} (hg : Grow w0 w) :
  ∀ (pre : List Nat) (a : Act) (L : List (Nat × (World → Prop))), (∀ k ∈ pre, fAnc am i k = false ∧ ∃ ok, ops[k]? = some ok ∧ oi.apart ops ok = true) → flA am L i w → wpL P ops am cl sp w0 Q (pre ++ i :: post) a L → flDo P ops cl sp i a w
 | [], a, L, hp, hf, hh => by
  unfold flDo;simp only [List.nil_append] at hh;unfold wpL at hh;rw [hi] at hh ⊢;simp only at hh ⊢;intro hw;rw [if_pos hw] at hh;split
  ·rename_i hc;rw [if_pos hc] at hh;obtain ⟨v, h1, _⟩ := hh;exact ⟨v, h1 w hg hf⟩
  ·rename_i hc;rw [if_neg hc] at hh;exact hh.1 w hg hf
 | k :: pre, a, L, hp, hf, hh => by
  obtain ⟨hna, ok, hok, hap⟩ := hp k (by simp);obtain ⟨_, _, h3⟩ := Oper.apart_spec hap
  have back : ∀ v, flDo P ops cl sp i (a.put ok.dst v) w → flDo P ops cl sp i a w := by
   intro v h;obtain ⟨e1, e2⟩ := keep_put (ok := ok) (fun cs b => hsel i oi cs b hi) h3 a v;unfold flDo at h ⊢;rw [hi] at h ⊢;simp only at h ⊢;intro hw;have h := h (by rw [e2]; exact hw);split
   ·rename_i hc; rw [if_pos hc] at h; rw [← e1]; exact h
   ·rename_i hc; rw [if_neg hc] at h; exact vwp_same e1.symm h
  have ih : ∀ a L, flA am L i w → wpL P ops am cl sp w0 Q (pre ++ i :: post) a L → flDo P ops cl sp i a w := fun a L hf hh => fl_do hi hsel hg pre a L (fun k hk => hp k (by simp [hk])) hf hh
  rw [List.cons_append] at hh;unfold wpL at hh;rw [hok] at hh;simp only at hh;split at hh
  ·split at hh
   ·obtain ⟨v, _, h2⟩ := hh;exact back v (ih _ _ hf h2)
   ·refine back _ (ih _ _ ?_ (hh.2 (sp k).d));intro p hp hc;rcases List.mem_append.1 hp with hp | hp
    ·exact hf p hp hc
    ·simp only [List.mem_singleton] at hp;subst hp;rw [hna] at hc; cases hc
  ·exact back _ (ih _ _ hf hh)
theorem fl_next {i : Nat} {oi : Oper} (hi : ops[i]? = some oi) (hsel : ∀ (j : Nat) (o : Oper) cs b, ops[j]? = some o → o.op ≠ .select cs b) {post : List Nat} {w : World} (hg : Grow w0 w) {v : Value} {Lx : List (Nat × (World → Prop))} :
  ∀ (pre : List Nat) (a : Act) (L : List (Nat × (World → Prop))), (∀ k ∈ pre, fAnc am i k = false ∧ ∃ ok, ops[k]? = some ok ∧ oi.apart ops ok = true) → flA am L i w → flRes P ops cl sp i oi a w v Lx → wpL P ops am cl sp w0 Q (pre ++ i :: post) a L →
   wpL P ops am cl sp w0 Q (pre ++ post) (a.put oi.dst v) (L ++ Lx)
 | [], a, L, hp, hf, hr, hh => by
  simp only [List.nil_append] at hh ⊢;unfold wpL at hh;rw [hi] at hh;unfold flRes at hr;simp only at hh;split at hh
  ·rename_i hw;rw [if_pos hw] at hr;split at hh
   ·rename_i hc;rw [if_pos hc] at hr;obtain ⟨v', h1, h2⟩ := hh;obtain ⟨r1, rfl⟩ := hr;rw [h1 w hg hf] at r1;cases r1
    simpa using h2
   ·rename_i hc;rw [if_neg hc] at hr;obtain ⟨x, rfl, rfl⟩ := hr;exact hh.2 x
  ·rename_i hw;rw [if_neg hw] at hr;obtain ⟨rfl, rfl⟩ := hr;simpa using hh
 | k :: pre, a, L, hp, hf, hr, hh => by
  obtain ⟨hna, ok, hok, hap⟩ := hp k (by simp);obtain ⟨h1, h2, h3⟩ := Oper.apart_spec hap;obtain ⟨f1, f2⟩ := keep_put (oi := ok) (ok := oi) (ops := ops) (fun cs b => hsel k ok cs b hok) h1 a v;have ih : ∀ a L, flA am L i w → flRes P ops cl sp i oi a w v Lx → wpL P ops am cl sp w0 Q (pre ++ i :: post) a L → wpL P ops am cl sp w0 Q (pre ++ post) (a.put oi.dst v) (L ++ Lx) := fun a L hf hr hh => fl_next hi hsel hg pre a L (fun k hk => hp k (by simp [hk])) hf hr hh
  have res : ∀ u, flRes P ops cl sp i oi (a.put ok.dst u) w v Lx := by
   intro u;obtain ⟨e1, e2⟩ := keep_put (ok := ok) (fun cs b => hsel i oi cs b hi) h3 a u;unfold flRes at hr ⊢;rw [e1, e2]; exact hr
  rw [List.cons_append] at hh ⊢;unfold wpL at hh ⊢;rw [hok] at hh ⊢;simp only at hh ⊢;rw [f2];split
  ·rename_i hw;rw [if_pos hw] at hh;split
   ·rename_i hc;rw [if_pos hc] at hh;obtain ⟨u, k1, k2⟩ := hh;refine ⟨u, fun w hg hf => ?_, ?_⟩
    ·rw [f1]; exact k1 w hg (flA_mono (fun p hp => List.mem_append.2 (.inl hp)) hf)
    ·rw [Act.put_comm a v u h2]; exact ih _ _ hf (res u) k2
   ·rename_i hc;rw [if_neg hc] at hh;refine ⟨fun w hg hf => vwp_same f1 (hh.1 w hg (flA_mono (fun p hp => List.mem_append.2 (.inl hp)) hf)), fun x => ?_⟩;rw [Act.put_comm a v _ h2];refine wpL_mono _ _ _ _ (fun p hp => ?_) (ih _ _ ?_ (res _) (hh.2 x))
    ·simp only [List.mem_append, List.mem_singleton] at hp ⊢;rcases hp with (hp | hp) | hp
     ·exact .inl (.inl hp)
     ·exact .inr hp
     ·exact .inl (.inr hp)
    ·intro p hp hc;rcases List.mem_append.1 hp with hp | hp
     ·exact hf p hp hc
     ·simp only [List.mem_singleton] at hp;subst hp;rw [hna] at hc; cases hc
  ·rename_i hw;rw [if_neg hw] at hh;rw [Act.put_comm a v _ h2];exact ih _ _ hf (res _) hh
def unl (ops : Array Oper) (listed : Array Bool) : List Nat := (List.range ops.size).filter fun i => !listed.getD i true
theorem unl_split {listed : Array Bool} {i : Nat} (hi : i ∈ unl ops listed) : ∃ pre post, unl ops listed = pre ++ i :: post ∧ (∀ k ∈ pre, k < i ∧ listed.getD k true = false) ∧ unl ops (listed.setIfInBounds i true) = pre ++ post := by
 obtain ⟨pre, post, e⟩ := List.append_of_mem hi;have hs : (unl ops listed).Pairwise (· < ·) := List.Pairwise.filter _ List.pairwise_lt_range;have hmem : ∀ k, k ∈ unl ops listed → listed.getD k true = false := fun k hk => by have := (List.mem_filter.1 hk).2; simpa using this
 rw [e] at hs;have hlt : ∀ k ∈ pre, k < i := fun k hk => (List.pairwise_append.1 hs).2.2 k hk i (by simp)
 have hgt : ∀ k ∈ post, i < k := fun k hk => (List.pairwise_cons.1 (List.pairwise_append.1 hs).2.1).1 k hk
 refine ⟨pre, post, e, fun k hk => ⟨hlt k hk, hmem k (by rw [e]; simp [hk])⟩, ?_⟩
 have h1 : unl ops (listed.setIfInBounds i true) = (unl ops listed).filter fun k => k != i := by
  unfold unl;rw [List.filter_filter];refine List.filter_congr fun k hk => ?_
  by_cases hki : i = k
  ·subst hki;have hl : listed.getD i true = false := hmem i hi;have := getD_set_true (i := i) (j := i) (listed := listed)
   have hh : (listed.setIfInBounds i true).getD i true = true := by
    rcases Nat.lt_or_ge i listed.size with h | h
    ·simp [Array.getD_eq_getD_getElem?, h]
    ·simp [Array.getD_eq_getD_getElem?, Array.getElem?_eq_none h] at hl
   rw [hh]; simp
  ·rw [getD_ne true hki];have : (k != i) = true := by simpa using fun e => hki e.symm
   rw [this]; simp
 rw [h1, e, List.filter_append, List.filter_cons];have a1 : pre.filter (fun k => k != i) = pre := List.filter_eq_self.2 fun k hk => by have := hlt k hk; simp; omega
 have a2 : post.filter (fun k => k != i) = post := List.filter_eq_self.2 fun k hk => by have := hgt k hk; simp; omega
 rw [a1, a2]; simp
theorem fanc_listed (hB : ∀ i ∈ List.range ops.size, (match ops[i]? with
  | none => false
  | some o => (o.after.all fun e => !Region.binds md e || decide (e.on < i)) && (List.range i).all fun k => if fAnc am i k then (o.after.any fun e => Region.binds md e && (e.on == k || fAnc am e.on k)) else (match ops[k]? with | none => false | some ok => o.apart ops ok)) = true)
  {listed : Array Bool} (hcl : PClosed md ops listed) : ∀ (i : Nat) (o : Oper), ops[i]? = some o → (∀ e ∈ o.after, Region.binds md e = true → listed.getD e.on false = true) → ∀ k, fAnc am i k = true → listed.getD k false = true := by
 intro i
 induction i using Nat.strongRecOn with
 | ind i ih =>
  intro o ho hall k hk;have hlt : i < ops.size := (Array.getElem?_eq_some_iff.1 ho).1;have h := hB i (List.mem_range.2 hlt);rw [ho] at h;simp only [Bool.and_eq_true] at h;have hki : k < i := by unfold fAnc at hk; simp only [Bool.and_eq_true, decide_eq_true_eq] at hk; exact hk.1
  have h2 := List.all_eq_true.1 h.2 k (List.mem_range.2 hki);rw [hk] at h2;simp only [if_true] at h2;obtain ⟨e, he, h3⟩ := Array.any_eq_true'.1 h2;simp only [Bool.and_eq_true, Bool.or_eq_true, beq_iff_eq] at h3;obtain ⟨hb, h3⟩ := h3;have hl := hall e he hb;rcases h3 with h3 | h3
  ·rw [← h3]; exact hl
  ·have h4 := Array.all_eq_true_iff_forall_mem.1 h.1 e he;rw [hb] at h4;have h5 : e.on < i := by simpa using h4
   have h6 : e.on < ops.size := by omega
   exact ih e.on h5 ops[e.on] (by simp [h6]) (fun e' he' hb' => hcl e.on ops[e.on] (by simp [h6]) hl e' he' hb') k h3
theorem wpAny_of_L (hB : flowB md ops am = true) : ∀ (f : Nat) (listed : Array Bool) (a : Act) (w : World) (L : List (Nat × (World → Prop))), (unl ops listed).length = f → PClosed md ops listed → Grow w0 w → (∀ p ∈ L, p.2 w ∧ ∀ w1 w2, p.2 w1 → Grow w1 w2 → p.2 w2) →
  wpL P ops am cl sp w0 Q (unl ops listed) a L → wpAny P md ops Q f listed a w := by
 simp only [flowB, Bool.and_eq_true, List.all_eq_true] at hB;obtain ⟨hns, hB⟩ := hB;have hsel := Region.noSelect_spec hns;intro f
 induction f with
 | zero =>
  intro listed a w L hl hcl hg hf hh;have hu : unl ops listed = [] := List.eq_nil_of_length_eq_zero hl;rw [hu] at hh;refine ⟨List.eq_nil_iff_forall_not_mem.2 fun i hi => ?_, hh w hg fun p hp => (hf p hp).1⟩;obtain ⟨h1, o, h2, _⟩ := mem_ready.1 hi;have : i ∈ unl ops listed := List.mem_filter.2 ⟨List.mem_range.2 (Array.getElem?_eq_some_iff.1 h2).1, by simp [h1]⟩;rw [hu] at this; cases this
 | succ f ih =>
  intro listed a w L hl hcl hg hf hh;refine ⟨fun hr => ?_, fun i hi => ?_⟩
  ·
   obtain ⟨i, us, hu⟩ : ∃ i us, unl ops listed = i :: us := by
    cases e : unl ops listed with
    | nil => rw [e] at hl; cases hl
    | cons i us => exact ⟨i, us, rfl⟩
   have him : i ∈ unl ops listed := by rw [hu]; simp
   have hs : (unl ops listed).Pairwise (· < ·) := List.Pairwise.filter _ List.pairwise_lt_range;obtain ⟨him1, him2⟩ := List.mem_filter.1 him;have hlt : i < ops.size := List.mem_range.1 him1
   have hrd : i ∈ Region.ready md ops listed := by
    refine mem_ready.2 ⟨by simpa using him2, ops[i], by simp [hlt], fun e he hb => ?_⟩;have h1 := hB i (List.mem_range.2 hlt);rw [show ops[i]? = some ops[i] by simp [hlt]] at h1;simp only [Bool.and_eq_true] at h1;have h2 := Array.all_eq_true_iff_forall_mem.1 h1.1 e he;rw [hb] at h2;have h3 : e.on < i := by simpa using h2
    cases hv : listed.getD e.on true with
    | true =>
     rcases Nat.lt_or_ge e.on listed.size with h | h
     ·simp [Array.getD_eq_getD_getElem?, h] at hv ⊢; exact hv
     ·have : listed.getD i true = true := by simp [Array.getD_eq_getD_getElem?, Array.getElem?_eq_none (show listed.size ≤ i by omega)]
      rw [this] at him2; simp at him2
    | false =>
     have hm : e.on ∈ unl ops listed := List.mem_filter.2 ⟨List.mem_range.2 (by omega), by simp [hv]⟩;rw [hu] at hm hs;rcases List.mem_cons.1 hm with e1 | e1
     ·omega
     ·have := (List.pairwise_cons.1 hs).1 _ e1; omega
   rw [hr] at hrd; cases hrd
  ·obtain ⟨hun, o, ho, hall⟩ := mem_ready.1 hi;have hlt : i < ops.size := (Array.getElem?_eq_some_iff.1 ho).1;obtain ⟨pre, post, e, hpre, hnext⟩ := unl_split (ops := ops) (listed := listed) (i := i) (List.mem_filter.2 ⟨List.mem_range.2 hlt, by simp [hun]⟩)
   have hap : ∀ k ∈ pre, fAnc am i k = false ∧ ∃ ok, ops[k]? = some ok ∧ o.apart ops ok = true := by
    intro k hk;obtain ⟨h1, h2⟩ := hpre k hk
    have hno : fAnc am i k = false := by
     cases hc : fAnc am i k with
     | false => rfl
     | true => have := fanc_listed hB hcl i o ho hall k hc; rw [getD_tf h2] at this; cases this
    refine ⟨hno, ?_⟩;have h3 := hB i (List.mem_range.2 hlt);rw [ho] at h3;simp only [Bool.and_eq_true] at h3;have h4 := List.all_eq_true.1 h3.2 k (List.mem_range.2 h1);rw [hno] at h4;simp only [Bool.false_eq_true, if_false] at h4;cases hk : ops[k]? with
    | none => rw [hk] at h4; cases h4
    | some ok => rw [hk] at h4; exact ⟨ok, rfl, h4⟩
   have hfa : flA am L i w := fun p hp _ => (hf p hp).1
   rw [e] at hh;have hdo := fl_do ho hsel hg pre a L hap hfa hh
   have hlen : (unl ops (listed.setIfInBounds i true)).length = f := by
    rw [hnext]; rw [e] at hl; simp at hl ⊢; omega
   have go : ∀ (v : Value) (Lx : List (Nat × (World → Prop))) (w' : World), flRes P ops cl sp i o a w v Lx → Grow w w' → (∀ p ∈ Lx, p.2 w' ∧ ∀ w1 w2, p.2 w1 → Grow w1 w2 → p.2 w2) → wpAny P md ops Q f (listed.setIfInBounds i true) (a.put o.dst v) w' := by
    intro v Lx w' hr hgw hfx;refine ih _ _ _ (L ++ Lx) hlen (closed_set hcl hi) (Grow.trans _ _ _ hg hgw) (fun p hp => ?_) ?_
    ·rcases List.mem_append.1 hp with hp | hp
     ·exact ⟨(hf p hp).2 _ _ (hf p hp).1 hgw, (hf p hp).2⟩
     ·exact hfx p hp
    ·rw [hnext]; exact fl_next ho hsel hg pre a L hap hfa hr hh
   unfold wpOp;rw [ho];simp only;unfold flDo at hdo;rw [ho] at hdo;simp only at hdo;split
   ·rename_i hw
    left
    have hdo := hdo hw;split at hdo
    ·rename_i hc;obtain ⟨v, hv⟩ := hdo;unfold Oper.wp;rw [hv];exact go v [] w (by unfold flRes; rw [if_pos hw, if_pos hc]; exact ⟨hv, rfl⟩) (Grow.refl w) (fun p hp => by cases hp)
    ·rename_i hc;refine wp_of_vwp hdo fun v w' hv => ?_
     obtain ⟨hgw, x, rfl, hx⟩ := hv;refine go _ [(i, (sp i).ok x)] w' (by unfold flRes; rw [if_pos hw, if_neg hc]; exact ⟨x, rfl, rfl⟩) hgw (fun p hp => ?_);simp only [List.mem_singleton] at hp;subst hp;exact ⟨hx, fun w1 w2 h k => (sp i).st x w1 w2 h k⟩
   ·rename_i hw;exact go undef [] w (by unfold flRes; rw [if_neg hw]; exact ⟨rfl, rfl⟩) (Grow.refl w) (fun p hp => by cases hp)
theorem all_un (n : Nat) : ∀ i ∈ List.range n, (!(Array.replicate n false).getD i true) = true := by
 intro i hi;have : i < n := List.mem_range.1 hi;simp [Array.getD_eq_getD_getElem?, this]
theorem wp_flow {id : Nat} {a : Act} {w : World} {l : List Oper} (am cl : List Nat) (sp : Nat → Sp) (hm : P.follows .mixedOrders = true) (hB : flowB .any l.toArray am = true)
  (h : ∀ w2, Drawn w w2 → wpL P l.toArray am cl sp w2 Q (List.range l.length) a []) : (Code.region id l.toArray true).wp P Q a w := by
 replace h := h w.drew (Drawn.one w);refine wp_region_any hm (wpAny_of_L (am := am) (w0 := w.drew) (cl := cl) (sp := sp) hB _ _ _ _ [] ?_ ?_ (Grow.refl _) (fun p hp => by cases hp) ?_)
 ·unfold unl;rw [List.filter_eq_self.2 (all_un l.toArray.size)];simp
 ·intro j oj _ hj;rw [Array.getD_eq_getD_getElem?, Array.getElem?_replicate] at hj;split at hj <;> simp at hj
 ·unfold unl;rw [List.filter_eq_self.2 (all_un l.toArray.size)];simpa using h
variable {o : Oper} {i : Nat} {us : List Nat} {a : Act} {L : List (Nat × (World → Prop))}
theorem fl_done (h : ∀ w, Grow w0 w → (∀ p ∈ L, p.2 w) → Q .normal a w) : wpL P ops am cl sp w0 Q [] a L := h
theorem fl_calm {v : Value} (hi : ops[i]? = some o) (hc : plCls cl i ≤ 2) (hw : Region.wanted o (yielded ops a.tmps) = true) (h : ∀ w, Grow w0 w → flA am L i w → (execOp a.eval o).run P w = .ok (.value v) w)
  (hk : ∀ K : Act → Prop, (∀ a, wpL P ops am cl sp w0 Q us a L → K a) → K (a.put o.dst v)) : wpL P ops am cl sp w0 Q (i :: us) a L := by
 unfold wpL; rw [hi]; simp only; rw [if_pos hw, if_pos hc]; exact ⟨v, h, hk _ fun _ h => h⟩
theorem flc {v : Value} (hk : ∀ K : Act → Prop, (∀ a, wpL P ops am cl sp w0 Q us a L → K a) → K (a.put o.dst v)) (hi : ops[i]? = some o := by exact rfl) (hc : plCls cl i ≤ 2 := by decide) (hw : Region.wanted o (yielded ops a.tmps) = true := by first | exact wanted_none rfl | (go_simp; done) | fail) (h : ∀ w, Grow w0 w → flA am L i w → (execOp a.eval o).run P w = .ok (.value v) w := by intro w_ _ _; first | (go_simp; rfl) | (go_simp; done) | rfl) : wpL P ops am cl sp w0 Q (i :: us) a L := fl_calm hi hc hw h hk
theorem fl_skip (hi : ops[i]? = some o) (hw : Region.wanted o (yielded ops a.tmps) = false)
  (hk : ∀ K : Act → Prop, (∀ a, wpL P ops am cl sp w0 Q us a L → K a) → K (a.put o.dst undef)) : wpL P ops am cl sp w0 Q (i :: us) a L := by
 unfold wpL; rw [hi]; simp only; rw [if_neg (by rw [hw]; simp)]; exact hk _ fun _ h => h
theorem fls (hk : ∀ K : Act → Prop, (∀ a, wpL P ops am cl sp w0 Q us a L → K a) → K (a.put o.dst undef)) (hi : ops[i]? = some o := by exact rfl) (hw : Region.wanted o (yielded ops a.tmps) = false := by first | (go_simp; done) | rfl) : wpL P ops am cl sp w0 Q (i :: us) a L := fl_skip hi hw hk
theorem fl_act (hi : ops[i]? = some o) (hc : plCls cl i = 3) (hw : Region.wanted o (yielded ops a.tmps) = true)
  (h : ∀ w, Grow w0 w → flA am L i w → vwp P o a w fun v w' => Grow w w' ∧ ∃ x, v = (sp i).val x ∧ (sp i).ok x w')
  (hk : ∀ x, ∀ K : Act → Prop, (∀ a, wpL P ops am cl sp w0 Q us a (L ++ [(i, (sp i).ok x)]) → K a) → K (a.put o.dst ((sp i).val x))) : wpL P ops am cl sp w0 Q (i :: us) a L := by
 unfold wpL; rw [hi]; simp only; rw [if_pos hw, if_neg (by omega)]; exact ⟨h, fun x => hk x _ fun _ h => h⟩
theorem fl_call {f : FuncId} {args : Array Value} (hi : ops[i]? = some o) (hc : plCls cl i = 3) (hw : Region.wanted o (yielded ops a.tmps) = true) (hr : ∀ w, (execOp a.eval o).run P w = .ok (.enter f args) w)
  (h : ∀ w, Grow w0 w → flA am L i w → Calls P f args w fun e w' => ∃ x, e = .returned ((sp i).val x) ∧ (sp i).ok x w' ∧ Grow w w')
  (hk : ∀ x, ∀ K : Act → Prop, (∀ a, wpL P ops am cl sp w0 Q us a (L ++ [(i, (sp i).ok x)]) → K a) → K (a.put o.dst ((sp i).val x))) : wpL P ops am cl sp w0 Q (i :: us) a L := by
 refine fl_act hi hc hw (fun w hg hf => ?_) hk;unfold vwp;rw [hr w];exact (h w hg hf).mono fun e w' ⟨x, h1, h2, h3⟩ => ⟨_, h1, h3, x, rfl, h2⟩
theorem fl_callv {v : Value} {f : FuncId} {args : Array Value} (hi : ops[i]? = some o) (hc : plCls cl i = 3) (hS : sp i = spV v) (hw : Region.wanted o (yielded ops a.tmps) = true) (hr : ∀ w, (execOp a.eval o).run P w = .ok (.enter f args) w)
  (h : ∀ w, Grow w0 w → flA am L i w → Calls P f args w fun e w' => e = .returned v ∧ Below w.heap.size w w')
  (hk : ∀ K : Act → Prop, (∀ a, wpL P ops am cl sp w0 Q us a (L ++ [(i, fun _ => True)]) → K a) → K (a.put o.dst v)) : wpL P ops am cl sp w0 Q (i :: us) a L := by
 refine fl_call hi hc hw hr ?_ ?_
 ·rw [hS]; intro w hg hf; exact (h w hg hf).mono fun e w' ⟨h1, h2⟩ => ⟨(), h1, trivial, h2⟩
 ·rw [hS]; intro x K hK; exact hk K hK
theorem flv {v : Value} {f : FuncId} {args : Array Value} (h : ∀ w, Grow w0 w → flA am L i w → Calls P f args w fun e w' => e = .returned v ∧ Below w.heap.size w w') (hk : ∀ K : Act → Prop, (∀ a, wpL P ops am cl sp w0 Q us a (L ++ [(i, fun _ => True)]) → K a) → K (a.put o.dst v)) (hi : ops[i]? = some o := by exact rfl) (hc : plCls cl i = 3 := by kernel_rfl) (hS : sp i = spV v := by exact rfl) (hw : Region.wanted o (yielded ops a.tmps) = true := by first | exact wanted_none rfl | (go_simp; done) | fail) (hr : ∀ w, (execOp a.eval o).run P w = .ok (.enter f args) w := by intro w_; first | (go_simp; exact ⟨rfl, rfl⟩) | (go_simp; rfl) | (go_simp; exact ⟨⟨rfl, rfl, rfl⟩, rfl⟩)) : wpL P ops am cl sp w0 Q (i :: us) a L := fl_callv hi hc hS hw hr h hk
theorem fl_load {T : TypeId} {x : Operand} {p : Addr} {v : Value} (hi : ops[i]? = some o) (hc : plCls cl i ≤ 2) (hw : Region.wanted o (yielded ops a.tmps) = true) (ho : o.op = .load T x) (hx : a.eval x = .pointer (some p))
  (hT : (match P.underlying T with | some (.struct _) | some (.array _ _) => false | some _ => true | none => false) = true) (hv : w0.cell? p = some v)
  (hk : ∀ K : Act → Prop, (∀ a, wpL P ops am cl sp w0 Q us a L → K a) → K (a.put o.dst v)) : wpL P ops am cl sp w0 Q (i :: us) a L := by
 refine fl_calm hi hc hw (fun w' hf _ => ?_) hk
 have hv' : w'.cell? p = some v := by
  have := World.block_lt_of_cell? w0 p hv;rw [hf.cell this]; exact hv
 unfold execOp;simp only [ho, hx, Instr.loadAt, Instr.sureAddr, Sem.run_bind, Sem.run_pure, Result.andThen_ok];cases hd : P.underlying T with
 | none => rw [hd] at hT; cases hT
 | some d =>
  rw [hd] at hT
  have hagg : (isAgg T).run P w' = .ok false w' := by
   unfold isAgg;rw [Sem.run_bind, run_underlying hd w'];cases d <;> simp_all
  simp [loadVar, hagg, load, Sem.run, hv']
theorem fl_loadb {T : TypeId} {x : Operand} {n : Nat} {g : Nat} {T' : TypeId} {cs : List Value} (hi : ops[i]? = some o) (hc : plCls cl i ≤ 2) (hw : Region.wanted o (yielded ops a.tmps) = true) (ho : o.op = .load T x) (hT : RowT P T n)
  (hb : Blk w0 g T' cs) (hx : a.eval x = .pointer (some ⟨g, 0, none⟩)) (hn : cs.length = n)
  (hk : ∀ K : Act → Prop, (∀ a, wpL P ops am cl sp w0 Q us a L → K a) → K (a.put o.dst (.agg cs.toArray))) : wpL P ops am cl sp w0 Q (i :: us) a L := by
 refine fl_calm hi hc hw (fun w' hf _ => ?_) hk;obtain ⟨d, hu, hd, hi⟩ := hT;have hrun := run_loadVar_row (P := P) w' g T' T cs.toArray (0, 0) d (hb.call hf) hu (by revert hd; cases d <;> simp) (by rw [hi]; simp [hn]);unfold execOp;simp only [ho, hx, Instr.loadAt, Instr.sureAddr, Sem.run_bind, Sem.run_pure, Result.andThen_ok, hrun]
theorem fl_loadm {T : TypeId} {x : Operand} {n b off : Nat} {cs : List Value} (hi : ops[i]? = some o) (hc : plCls cl i ≤ 2) (hw : Region.wanted o (yielded ops a.tmps) = true) (ho : o.op = .load T x) (hT : RowT P T n)
  (hv : ∀ j u, cs[j]? = some u → w0.cell? ⟨b, off + j, none⟩ = some u) (hx : a.eval x = .pointer (some ⟨b, off, none⟩)) (hn : cs.length = n)
  (hk : ∀ K : Act → Prop, (∀ a, wpL P ops am cl sp w0 Q us a L → K a) → K (a.put o.dst (.agg cs.toArray))) : wpL P ops am cl sp w0 Q (i :: us) a L := by
 refine fl_calm hi hc hw (fun w' hf _ => ?_) hk;obtain ⟨d, hu, hd, hi⟩ := hT
 have hrun := run_loadVar_mid (P := P) w' b off T cs d (fun j u hj => by
  have h1 := hv j u hj
  rw [hf.cell (World.block_lt_of_cell? w0 _ h1)]; exact h1) hu (by cases d <;> simp_all) (by rw [hi, hn])
 unfold execOp;simp only [ho, hx, Instr.loadAt, Instr.sureAddr, Sem.run_bind, Sem.run_pure, Result.andThen_ok, hrun]
end
attribute [irreducible] wpL
end Go.Proofs.Ytobmldegjajocaa
namespace Go.Proofs.Ytobmldegjajocaa
open Go.RowKit Go.Shelf
theorem Dig.eql_b {xs ys : List Value} {a b : List UInt8} {d : Bool} (h : Dig xs a) (k : Dig ys b) (hd : (a == b) = d) (w : World) : (binOp .eql 29 (.agg xs.toArray) (.agg ys.toArray)).run Try.prog w = .ok (.bool d) w := by rw [h.eql k, hd]
theorem Dig.neq_b {xs ys : List Value} {a b : List UInt8} {d : Bool} (h : Dig xs a) (k : Dig ys b) (hd : (a == b) = d) (w : World) : (binOp .neq 29 (.agg xs.toArray) (.agg ys.toArray)).run Try.prog w = .ok (.bool !d) w := by rw [h.neq k, bne, hd]
attribute [local go_sem ↓ high] add_w
attribute [local go_sem high] xor_w and_w or_w not_w shr_w shl_w wrap_b8
theorem not_sub (x : UInt32) : Op.intArith .sub .u32 4294967295 (w32 x) = pure (.int .u32 (w32 (~~~x))) := by
 have : IntKind.u32.wrap (4294967295 - w32 x) = w32 (~~~x) := by
  have h1 : (~~~x).toNat = 4294967295 - x.toNat := by rw [UInt32.toNat_not]; rfl
  have := x.toNat_lt;rw [IntKind.wrap_u32];unfold w32;rw [h1];omega
 show pure (Value.int .u32 (IntKind.u32.wrap (4294967295 - w32 x))) = _
 rw [this]
attribute [local go_sem ↓ high] not_sub
structure KeepR (g s1 s2 gm gh nb cm ch : Nat) (m : List UInt8) (hl : List Value) (w V : World) : Prop where
 msg : V.ownsRow (g + 1) 5 1 (.slice (some ⟨gm, 0, none⟩) (64 * nb) cm) (64 * nb) (m.map B)
 hs : V.ownsRow s1 182 1 (.slice (some ⟨gh, 0, none⟩) 8 ch) 8 hl
 res : Blk V g 29 (List.replicate 32 (B 0))
 low : Below g w V
 sz : s2 ≤ V.heap.size
 lm : gm < s2
 lh : gh < s2
 lg : g < s2
 mh : gm < gh
 g0 : g < gh
section
variable {g s1 s2 s3 gm gh nb cm ch : Nat} {m : List UInt8} {hl : List Value} {w V V' : World}
end
end Go.Proofs.Ytobmldegjajocaa
namespace Go.Proofs.Ytobmldegjajocaa
open Go.RowKit Go.Shelf
attribute [local go_sem ↓ high] add_w
attribute [local go_sem high] xor_w and_w or_w not_w shr_w shl_w wrap_b8
end Go.Proofs.Ytobmldegjajocaa
namespace Go.Proofs.Ytobmldegjajocaa
open Go.RowKit Go.Shelf
attribute [local go_sem ↓ high] add_w
attribute [local go_sem high] xor_w and_w or_w not_w shr_w shl_w wrap_b8
attribute [local go_sem ↓ high] not_sub
end Go.Proofs.Ytobmldegjajocaa
namespace Go.Proofs.Ytobmldegjajocaa
open Go.RowKit Go.Shelf
attribute [local go_sem ↓ high] add_w
attribute [local go_sem high] xor_w and_w or_w not_w shr_w shl_w wrap_b8
attribute [local go_sem ↓ high] not_sub
end Go.Proofs.Ytobmldegjajocaa
namespace Go.Proofs.Ytobmldegjajocaa
open Go.RowKit Go.Shelf
attribute [local go_sem ↓ high] add_w
attribute [local go_sem high] xor_w and_w or_w not_w shr_w shl_w wrap_b8
attribute [local go_sem ↓ high] not_sub
end Go.Proofs.Ytobmldegjajocaa
namespace Go.Proofs.Ytobmldegjajocaa
open Go.RowKit Go.Shelf
attribute [local go_sem ↓ high] add_w
attribute [local go_sem high] xor_w and_w or_w not_w shr_w shl_w wrap_b8
attribute [local go_sem ↓ high] not_sub
end Go.Proofs.Ytobmldegjajocaa
namespace Go.Proofs.Ytobmldegjajocaa
open Go.RowKit Go.Shelf
attribute [local go_sem ↓ high] add_w
attribute [local go_sem high] xor_w and_w or_w not_w shr_w shl_w wrap_b8
attribute [local go_sem ↓ high] not_sub
end Go.Proofs.Ytobmldegjajocaa
namespace Go.Proofs.Ytobmldegjajocaa
open Go.RowKit Go.Shelf
attribute [local go_sem ↓ high] add_w
attribute [local go_sem high] xor_w and_w or_w not_w shr_w shl_w wrap_b8
attribute [local go_sem ↓ high] not_sub
end Go.Proofs.Ytobmldegjajocaa
namespace Go.Proofs.Ytobmldegjajocaa
open Go.RowKit Go.Shelf
attribute [local go_sem ↓ high] add_w
attribute [local go_sem high] xor_w and_w or_w not_w shr_w shl_w wrap_b8
attribute [local go_sem ↓ high] not_sub
end Go.Proofs.Ytobmldegjajocaa
namespace Go.Proofs.Ytobmldegjajocaa
open Go.RowKit Go.Shelf
attribute [local go_sem ↓ high] add_w
attribute [local go_sem high] xor_w and_w or_w not_w shr_w shl_w wrap_b8
attribute [local go_sem ↓ high] not_sub
end Go.Proofs.Ytobmldegjajocaa
namespace Go.Proofs.Ytobmldegjajocaa
open Go.RowKit Go.Shelf
attribute [local go_sem ↓ high] add_w
attribute [local go_sem high] xor_w and_w or_w not_w shr_w shl_w wrap_b8
attribute [local go_sem ↓ high] not_sub
end Go.Proofs.Ytobmldegjajocaa
namespace Go.Proofs.Ytobmldegjajocaa
open Go.RowKit Go.Shelf
attribute [local go_sem ↓ high] add_w
attribute [local go_sem high] xor_w and_w or_w not_w shr_w shl_w wrap_b8
attribute [local go_sem ↓ high] not_sub
end Go.Proofs.Ytobmldegjajocaa
namespace Go.Proofs.Ytobmldegjajocaa
open Go.RowKit Go.Shelf
attribute [local go_sem ↓ high] add_w
attribute [local go_sem high] xor_w and_w or_w not_w shr_w shl_w wrap_b8
attribute [local go_sem ↓ high] not_sub
end Go.Proofs.Ytobmldegjajocaa
namespace Go.Proofs.Ytobmldegjajocaa
open Go.RowKit Go.Shelf
attribute [local go_sem ↓ high] add_w
attribute [local go_sem high] xor_w and_w or_w not_w shr_w shl_w wrap_b8
attribute [local go_sem ↓ high] not_sub
end Go.Proofs.Ytobmldegjajocaa
namespace Go.Proofs.Ytobmldegjajocaa
open Go.RowKit Go.Shelf
attribute [local go_sem ↓ high] add_w
attribute [local go_sem high] xor_w and_w or_w not_w shr_w shl_w wrap_b8
attribute [local go_sem ↓ high] not_sub
end Go.Proofs.Ytobmldegjajocaa
namespace Go.Proofs.Ytobmldegjajocaa
open Go.RowKit Go.Shelf
def rootB (l : List (List UInt8)) : List UInt8 :=
 match l with
 | [] => noneB
 | [x] => leafB x
 | x :: y :: r => nodeB (rootB ((x :: y :: r).take (halfN (x :: y :: r).length))) (rootB ((x :: y :: r).drop (halfN (x :: y :: r).length)))
termination_by l.length
decreasing_by
 ·rw [List.length_take]; have := halfN_lt (n := (x :: y :: r).length) (by simp); omega
 ·rw [List.length_drop]; have := halfN_pos (x :: y :: r).length; simp only [List.length_cons] at *; omega
attribute [local irreducible] leafB nodeB noneB
end Go.Proofs.Ytobmldegjajocaa
namespace Go.Proofs.Ytobmldegjajocaa
open Go.RowKit
def putEB (e : Ent) : List UInt8 := numB e.kind.toNat ++ numB e.shard.toNat ++ e.tx ++ numB e.amount.toNat ++ numB e.why.toNat ++ numB e.epoch.toNat
def putHB (h : Hdr) : List UInt8 := numB h.shard.toNat ++ numB h.height.toNat ++ numB h.epoch.toNat ++ h.prev ++ h.root
def zeroD : List UInt8 := List.replicate 32 0
theorem inB_iff {n lo hi : Int} : inB n lo hi = true ↔ lo ≤ n ∧ n ≤ hi := by unfold inB; simp
theorem rightE_iff {e : Ent} : rightE e = true ↔ (1 ≤ e.kind ∧ e.kind ≤ 3) ∧ (0 ≤ e.shard ∧ e.shard ≤ 63) ∧ e.amount ≤ 4611686018427387904 ∧ (0 ≤ e.why ∧ e.why ≤ 63) ∧ (0 ≤ e.epoch ∧ e.epoch ≤ 1099511627776) := by
 unfold rightE; simp only [Bool.and_eq_true, inB_iff, decide_eq_true_eq]; constructor <;> (intro h; omega)
theorem rightH_iff {h : Hdr} : rightH h = true ↔ (0 ≤ h.shard ∧ h.shard ≤ 63) ∧ (1 ≤ h.height ∧ h.height ≤ 1099511627776) ∧ (0 ≤ h.epoch ∧ h.epoch ≤ 1099511627776) := by
 unfold rightH; simp only [Bool.and_eq_true, inB_iff]; constructor <;> (intro h; omega)
theorem putHB_len {h : Hdr} (hk : h.ok) (hr : rightH h = true) : (putHB h).length ≤ 91 := by
 have hr := rightH_iff.1 hr;have h1 := numB_le (n := h.shard.toNat) (by omega);have h2 := numB_le (n := h.height.toNat) (by omega);have h3 := numB_le (n := h.epoch.toNat) (by omega);have h4 := hk.2.2.2.1; have h5 := hk.2.2.2.2;unfold putHB; simp only [List.length_append]; omega
theorem putEB_len {e : Ent} (hk : e.ok) (hr : rightE e = true) : (putEB e).length ≤ 77 := by
 have hr := rightE_iff.1 hr;have h1 := numB_le (n := e.kind.toNat) (by omega);have h2 := numB_le (n := e.shard.toNat) (by omega);have h3 := numB_le (n := e.amount.toNat) (by omega);have h4 := numB_le (n := e.why.toNat) (by omega);have h5 := numB_le (n := e.epoch.toNat) (by omega);have h6 := hk.2.2.1;unfold putEB; simp only [List.length_append]; omega
end Go.Proofs.Ytobmldegjajocaa

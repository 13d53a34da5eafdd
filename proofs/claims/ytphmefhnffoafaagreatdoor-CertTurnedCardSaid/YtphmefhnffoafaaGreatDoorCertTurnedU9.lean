/- A region that draws its order, walked once in the order of the text: what acts (calls, new rows) yields a value of a form given ahead (Sp) with a fact that lasts while memory grows; no order need be looked at. No program in sight. -/
import Derived.Test.YtphmefhnffoafaaGreatDoorCertTurnedU4
import Derived.Test.YtphmefhnffoafaaGreatDoorCertTurnedU6
import Derived.Test.YtphmefhnffoafaaGreatDoorCertTurnedU8
import Derived.Test.YtphmefhnffoafaaGreatDoorCertTurnedU5
set_option linter.unusedSimpArgs false
namespace Go.Proofs.YtphmefhnffoafaaGreatDoor
open Go.RowKit
structure Sp where
 X : Type
 d : X
 val : X → Value
 ok : X → World → Prop
 st : ∀ x w w', ok x w → Grow w w' → ok x w'
def spV (v : Value) : Sp := ⟨Unit, (), fun _ => v, fun _ _ => True, fun _ _ _ _ _ => trivial⟩
def vwp (P : Program) (o : Oper) (a : Act) (w : World) (R : Value → World → Prop) : Prop :=
 match (execOp a.eval o).run P w with
 | .ok (.value v) w' => R v w'
 | .ok .skip w' => R undef w'
 | .ok (.enter f args) w' => Calls P f args w' fun e w'' => ∃ v, e = .returned v ∧ R v w''
 | .ok (.row row args) w' => Rows P row args w' R
 | _ => False
theorem vwp_same {P : Program} {o : Oper} {a a' : Act} {w : World} {R : Value → World → Prop} (he : execOp a'.eval o = execOp a.eval o) (hh : vwp P o a w R) : vwp P o a' w R := by
 unfold vwp at *; rw [he]; exact hh
theorem wp_of_vwp {P : Program} {o : Oper} {a : Act} {w : World} {R : Value → World → Prop} {K : Act → World → Prop} {Q : Exit → Act → World → Prop} (hh : vwp P o a w R) (h : ∀ v w', R v w' → K (a.put o.dst v) w') : o.wp P a w K Q := by
 unfold vwp at hh
 unfold Oper.wp
 generalize (execOp a.eval o).run P w = r at *
 cases r with
 | ok n w' =>
  cases n <;> simp only [Oper.upon] at hh ⊢
  case value => exact h _ _ hh
  case skip => exact h _ _ hh
  case enter f args =>
   refine Calls.mono hh fun e w'' he => ?_
   obtain ⟨v, rfl, hv⟩ := he
   exact h _ _ hv
  case row => exact Rows.mono hh fun _ _ he => h _ _ he
 | halt x w' => simp at hh
def fAnc (am : List Nat) (i k : Nat) : Bool := decide (k < i) && (am.getD i 0).testBit k
section
variable (P : Program) (md : Region.Mode) (ops : Array Oper) (am cl : List Nat) (sp : Nat → Sp) (w0 : World) (Q : Exit → Act → World → Prop)
def flA (am : List Nat) (L : List (Nat × (World → Prop))) (i : Nat) (w : World) : Prop := ∀ p ∈ L, fAnc am i p.1 = true → p.2 w
def wpL : List Nat → Act → List (Nat × (World → Prop)) → Prop
 | [], a, L => ∀ w, Grow w0 w → (∀ p ∈ L, p.2 w) → Q .normal a w
 | i :: us, a, L => match ops[i]? with
  | none => False
  | some o => if Region.wanted o (yielded ops a.tmps) then
    (if plCls cl i ≤ 2 then ∃ v, (∀ w, Grow w0 w → flA am L i w → (execOp a.eval o).run P w = .ok (.value v) w) ∧ wpL us (a.put o.dst v) L
    else (∀ w, Grow w0 w → flA am L i w → vwp P o a w fun v w' => Grow w w' ∧ ∃ x, v = (sp i).val x ∧ (sp i).ok x w') ∧ ∀ x, wpL us (a.put o.dst ((sp i).val x)) (L ++ [(i, (sp i).ok x)]))
   else wpL us (a.put o.dst undef) L
def flowB : Bool := Region.noSelect ops && (List.range ops.size).all fun i => match ops[i]? with
 | none => false
 | some o => (o.after.all fun e => !Region.binds md e || decide (e.on < i)) && (List.range i).all fun k => if fAnc am i k then (o.after.any fun e => Region.binds md e && (e.on == k || fAnc am e.on k)) else (match ops[k]? with | none => false | some ok => o.apart ops ok)
end
section
variable {P : Program} {md : Region.Mode} {ops : Array Oper} {am cl : List Nat} {sp : Nat → Sp} {w0 : World} {Q : Exit → Act → World → Prop}
theorem flA_mono {L L' : List (Nat × (World → Prop))} (h : ∀ p ∈ L, p ∈ L') {i : Nat} {w : World} (hh : flA am L' i w) : flA am L i w := fun p hp => hh p (h p hp)
theorem wpL_mono : ∀ (us : List Nat) (a : Act) (L L' : List (Nat × (World → Prop))), (∀ p ∈ L, p ∈ L') → wpL P ops am cl sp w0 Q us a L → wpL P ops am cl sp w0 Q us a L'
 | [], a, L, L', h, hh => fun w hg hf => hh w hg fun p hp => hf p (h p hp)
 | i :: us, a, L, L', h, hh => by
  unfold wpL at hh ⊢
  cases ho : ops[i]? with
  | none => rw [ho] at hh; exact hh.elim
  | some o =>
   rw [ho] at hh
   simp only at hh ⊢
   split
   ·rename_i hw
    rw [if_pos hw] at hh
    split
    ·rename_i hc
     rw [if_pos hc] at hh
     obtain ⟨v, h1, h2⟩ := hh
     exact ⟨v, fun w hg hf => h1 w hg (flA_mono h hf), wpL_mono us _ L L' h h2⟩
    ·rename_i hc
     rw [if_neg hc] at hh
     refine ⟨fun w hg hf => hh.1 w hg (flA_mono h hf), fun x => wpL_mono us _ _ _ (fun p hp => ?_) (hh.2 x)⟩
     rcases List.mem_append.1 hp with hp | hp
     ·exact List.mem_append.2 (.inl (h p hp))
     ·exact List.mem_append.2 (.inr hp)
   ·rename_i hw
    rw [if_neg hw] at hh
    exact wpL_mono us _ L L' h hh
def flDo (P : Program) (ops : Array Oper) (cl : List Nat) (sp : Nat → Sp) (i : Nat) (a : Act) (w : World) : Prop :=
 match ops[i]? with
 | none => False
 | some o => Region.wanted o (yielded ops a.tmps) = true → if plCls cl i ≤ 2 then ∃ v, (execOp a.eval o).run P w = .ok (.value v) w else vwp P o a w fun v w' => Grow w w' ∧ ∃ x, v = (sp i).val x ∧ (sp i).ok x w'
def flRes (P : Program) (ops : Array Oper) (cl : List Nat) (sp : Nat → Sp) (i : Nat) (o : Oper) (a : Act) (w : World) (v : Value) (Lx : List (Nat × (World → Prop))) : Prop :=
 if Region.wanted o (yielded ops a.tmps) then (if plCls cl i ≤ 2 then (execOp a.eval o).run P w = .ok (.value v) w ∧ Lx = [] else ∃ x, v = (sp i).val x ∧ Lx = [(i, (sp i).ok x)]) else v = undef ∧ Lx = []
theorem keep_put {oi ok : Oper} (hsel : ∀ cs b, oi.op ≠ .select cs b) (h3 : ∀ d, ok.dst = some d → d ∉ oi.looksAt ops) (a : Act) (u : Value) :
  execOp (a.put ok.dst u).eval oi = execOp a.eval oi ∧ Region.wanted oi (yielded ops (a.put ok.dst u).tmps) = Region.wanted oi (yielded ops a.tmps) := ⟨execOp_put oi hsel a ok.dst u h3, wanted_put oi a ok.dst u h3⟩
theorem fl_do {i : Nat} {oi : Oper} (hi : ops[i]? = some oi) (hsel : ∀ (j : Nat) (o : Oper) cs b, ops[j]? = some o → o.op ≠ .select cs b) {post : List Nat} {w : World} (hg : Grow w0 w) :
  ∀ (pre : List Nat) (a : Act) (L : List (Nat × (World → Prop))), (∀ k ∈ pre, fAnc am i k = false ∧ ∃ ok, ops[k]? = some ok ∧ oi.apart ops ok = true) → flA am L i w → wpL P ops am cl sp w0 Q (pre ++ i :: post) a L → flDo P ops cl sp i a w
 | [], a, L, hp, hf, hh => by
  unfold flDo
  simp only [List.nil_append] at hh
  unfold wpL at hh
  rw [hi] at hh ⊢
  simp only at hh ⊢
  intro hw
  rw [if_pos hw] at hh
  split
  ·rename_i hc
   rw [if_pos hc] at hh
   obtain ⟨v, h1, _⟩ := hh
   exact ⟨v, h1 w hg hf⟩
  ·rename_i hc
   rw [if_neg hc] at hh
   exact hh.1 w hg hf
 | k :: pre, a, L, hp, hf, hh => by
  obtain ⟨hna, ok, hok, hap⟩ := hp k (by simp)
  obtain ⟨_, _, h3⟩ := Oper.apart_spec hap
  have back : ∀ v, flDo P ops cl sp i (a.put ok.dst v) w → flDo P ops cl sp i a w := by
   intro v h
   obtain ⟨e1, e2⟩ := keep_put (ok := ok) (fun cs b => hsel i oi cs b hi) h3 a v
   unfold flDo at h ⊢
   rw [hi] at h ⊢
   simp only at h ⊢
   intro hw
   have h := h (by rw [e2]; exact hw)
   split
   ·rename_i hc; rw [if_pos hc] at h; rw [← e1]; exact h
   ·rename_i hc; rw [if_neg hc] at h; exact vwp_same e1.symm h
  have ih : ∀ a L, flA am L i w → wpL P ops am cl sp w0 Q (pre ++ i :: post) a L → flDo P ops cl sp i a w := fun a L hf hh => fl_do hi hsel hg pre a L (fun k hk => hp k (by simp [hk])) hf hh
  rw [List.cons_append] at hh
  unfold wpL at hh
  rw [hok] at hh
  simp only at hh
  split at hh
  ·split at hh
   ·obtain ⟨v, _, h2⟩ := hh
    exact back v (ih _ _ hf h2)
   ·refine back _ (ih _ _ ?_ (hh.2 (sp k).d))
    intro p hp hc
    rcases List.mem_append.1 hp with hp | hp
    ·exact hf p hp hc
    ·simp only [List.mem_singleton] at hp
     subst hp
     rw [hna] at hc; cases hc
  ·exact back _ (ih _ _ hf hh)
theorem fl_next {i : Nat} {oi : Oper} (hi : ops[i]? = some oi) (hsel : ∀ (j : Nat) (o : Oper) cs b, ops[j]? = some o → o.op ≠ .select cs b) {post : List Nat} {w : World} (hg : Grow w0 w) {v : Value} {Lx : List (Nat × (World → Prop))} :
  ∀ (pre : List Nat) (a : Act) (L : List (Nat × (World → Prop))), (∀ k ∈ pre, fAnc am i k = false ∧ ∃ ok, ops[k]? = some ok ∧ oi.apart ops ok = true) → flA am L i w → flRes P ops cl sp i oi a w v Lx → wpL P ops am cl sp w0 Q (pre ++ i :: post) a L →
   wpL P ops am cl sp w0 Q (pre ++ post) (a.put oi.dst v) (L ++ Lx)
 | [], a, L, hp, hf, hr, hh => by
  simp only [List.nil_append] at hh ⊢
  unfold wpL at hh
  rw [hi] at hh
  unfold flRes at hr
  simp only at hh
  split at hh
  ·rename_i hw
   rw [if_pos hw] at hr
   split at hh
   ·rename_i hc
    rw [if_pos hc] at hr
    obtain ⟨v', h1, h2⟩ := hh
    obtain ⟨r1, rfl⟩ := hr
    rw [h1 w hg hf] at r1
    cases r1
    simpa using h2
   ·rename_i hc
    rw [if_neg hc] at hr
    obtain ⟨x, rfl, rfl⟩ := hr
    exact hh.2 x
  ·rename_i hw
   rw [if_neg hw] at hr
   obtain ⟨rfl, rfl⟩ := hr
   simpa using hh
 | k :: pre, a, L, hp, hf, hr, hh => by
  obtain ⟨hna, ok, hok, hap⟩ := hp k (by simp)
  obtain ⟨h1, h2, h3⟩ := Oper.apart_spec hap
  obtain ⟨f1, f2⟩ := keep_put (oi := ok) (ok := oi) (ops := ops) (fun cs b => hsel k ok cs b hok) h1 a v
  have ih : ∀ a L, flA am L i w → flRes P ops cl sp i oi a w v Lx → wpL P ops am cl sp w0 Q (pre ++ i :: post) a L → wpL P ops am cl sp w0 Q (pre ++ post) (a.put oi.dst v) (L ++ Lx) := fun a L hf hr hh => fl_next hi hsel hg pre a L (fun k hk => hp k (by simp [hk])) hf hr hh
  have res : ∀ u, flRes P ops cl sp i oi (a.put ok.dst u) w v Lx := by
   intro u
   obtain ⟨e1, e2⟩ := keep_put (ok := ok) (fun cs b => hsel i oi cs b hi) h3 a u
   unfold flRes at hr ⊢
   rw [e1, e2]; exact hr
  rw [List.cons_append] at hh ⊢
  unfold wpL at hh ⊢
  rw [hok] at hh ⊢
  simp only at hh ⊢
  rw [f2]
  split
  ·rename_i hw
   rw [if_pos hw] at hh
   split
   ·rename_i hc
    rw [if_pos hc] at hh
    obtain ⟨u, k1, k2⟩ := hh
    refine ⟨u, fun w hg hf => ?_, ?_⟩
    ·rw [f1]; exact k1 w hg (flA_mono (fun p hp => List.mem_append.2 (.inl hp)) hf)
    ·rw [Act.put_comm a v u h2]; exact ih _ _ hf (res u) k2
   ·rename_i hc
    rw [if_neg hc] at hh
    refine ⟨fun w hg hf => vwp_same f1 (hh.1 w hg (flA_mono (fun p hp => List.mem_append.2 (.inl hp)) hf)), fun x => ?_⟩
    rw [Act.put_comm a v _ h2]
    refine wpL_mono _ _ _ _ (fun p hp => ?_) (ih _ _ ?_ (res _) (hh.2 x))
    ·simp only [List.mem_append, List.mem_singleton] at hp ⊢
     rcases hp with (hp | hp) | hp
     ·exact .inl (.inl hp)
     ·exact .inr hp
     ·exact .inl (.inr hp)
    ·intro p hp hc
     rcases List.mem_append.1 hp with hp | hp
     ·exact hf p hp hc
     ·simp only [List.mem_singleton] at hp
      subst hp
      rw [hna] at hc; cases hc
  ·rename_i hw
   rw [if_neg hw] at hh
   rw [Act.put_comm a v _ h2]
   exact ih _ _ hf (res _) hh
def unl (ops : Array Oper) (listed : Array Bool) : List Nat := (List.range ops.size).filter fun i => !listed.getD i true
theorem unl_split {listed : Array Bool} {i : Nat} (hi : i ∈ unl ops listed) : ∃ pre post, unl ops listed = pre ++ i :: post ∧ (∀ k ∈ pre, k < i ∧ listed.getD k true = false) ∧ unl ops (listed.setIfInBounds i true) = pre ++ post := by
 obtain ⟨pre, post, e⟩ := List.append_of_mem hi
 have hs : (unl ops listed).Pairwise (· < ·) := List.Pairwise.filter _ List.pairwise_lt_range
 have hmem : ∀ k, k ∈ unl ops listed → listed.getD k true = false := fun k hk => by have := (List.mem_filter.1 hk).2; simpa using this
 rw [e] at hs
 have hlt : ∀ k ∈ pre, k < i := fun k hk => (List.pairwise_append.1 hs).2.2 k hk i (by simp)
 have hgt : ∀ k ∈ post, i < k := fun k hk => (List.pairwise_cons.1 (List.pairwise_append.1 hs).2.1).1 k hk
 refine ⟨pre, post, e, fun k hk => ⟨hlt k hk, hmem k (by rw [e]; simp [hk])⟩, ?_⟩
 have h1 : unl ops (listed.setIfInBounds i true) = (unl ops listed).filter fun k => k != i := by
  unfold unl
  rw [List.filter_filter]
  refine List.filter_congr fun k hk => ?_
  by_cases hki : i = k
  ·subst hki
   have hl : listed.getD i true = false := hmem i hi
   have := getD_set_true (i := i) (j := i) (listed := listed)
   have hh : (listed.setIfInBounds i true).getD i true = true := by
    rcases Nat.lt_or_ge i listed.size with h | h
    ·simp [Array.getD_eq_getD_getElem?, h]
    ·simp [Array.getD_eq_getD_getElem?, Array.getElem?_eq_none h] at hl
   rw [hh]; simp
  ·rw [getD_ne true hki]
   have : (k != i) = true := by simpa using fun e => hki e.symm
   rw [this]; simp
 rw [h1, e, List.filter_append, List.filter_cons]
 have a1 : pre.filter (fun k => k != i) = pre := List.filter_eq_self.2 fun k hk => by have := hlt k hk; simp; omega
 have a2 : post.filter (fun k => k != i) = post := List.filter_eq_self.2 fun k hk => by have := hgt k hk; simp; omega
 rw [a1, a2]; simp
theorem fanc_listed (hB : ∀ i ∈ List.range ops.size, (match ops[i]? with
  | none => false
  | some o => (o.after.all fun e => !Region.binds md e || decide (e.on < i)) && (List.range i).all fun k => if fAnc am i k then (o.after.any fun e => Region.binds md e && (e.on == k || fAnc am e.on k)) else (match ops[k]? with | none => false | some ok => o.apart ops ok)) = true)
  {listed : Array Bool} (hcl : PClosed md ops listed) : ∀ (i : Nat) (o : Oper), ops[i]? = some o → (∀ e ∈ o.after, Region.binds md e = true → listed.getD e.on false = true) → ∀ k, fAnc am i k = true → listed.getD k false = true := by
 intro i
 induction i using Nat.strongRecOn with
 | ind i ih =>
  intro o ho hall k hk
  have hlt : i < ops.size := (Array.getElem?_eq_some_iff.1 ho).1
  have h := hB i (List.mem_range.2 hlt)
  rw [ho] at h
  simp only [Bool.and_eq_true] at h
  have hki : k < i := by unfold fAnc at hk; simp only [Bool.and_eq_true, decide_eq_true_eq] at hk; exact hk.1
  have h2 := List.all_eq_true.1 h.2 k (List.mem_range.2 hki)
  rw [hk] at h2
  simp only [if_true] at h2
  obtain ⟨e, he, h3⟩ := Array.any_eq_true'.1 h2
  simp only [Bool.and_eq_true, Bool.or_eq_true, beq_iff_eq] at h3
  obtain ⟨hb, h3⟩ := h3
  have hl := hall e he hb
  rcases h3 with h3 | h3
  ·rw [← h3]; exact hl
  ·have h4 := Array.all_eq_true_iff_forall_mem.1 h.1 e he
   rw [hb] at h4
   have h5 : e.on < i := by simpa using h4
   have h6 : e.on < ops.size := by omega
   exact ih e.on h5 ops[e.on] (by simp [h6]) (fun e' he' hb' => hcl e.on ops[e.on] (by simp [h6]) hl e' he' hb') k h3
theorem wpAny_of_L (hB : flowB md ops am = true) : ∀ (f : Nat) (listed : Array Bool) (a : Act) (w : World) (L : List (Nat × (World → Prop))), (unl ops listed).length = f → PClosed md ops listed → Grow w0 w → (∀ p ∈ L, p.2 w ∧ ∀ w1 w2, p.2 w1 → Grow w1 w2 → p.2 w2) →
  wpL P ops am cl sp w0 Q (unl ops listed) a L → wpAny P md ops Q f listed a w := by
 simp only [flowB, Bool.and_eq_true, List.all_eq_true] at hB
 obtain ⟨hns, hB⟩ := hB
 have hsel := Region.noSelect_spec hns
 intro f
 induction f with
 | zero =>
  intro listed a w L hl hcl hg hf hh
  have hu : unl ops listed = [] := List.eq_nil_of_length_eq_zero hl
  rw [hu] at hh
  refine ⟨List.eq_nil_iff_forall_not_mem.2 fun i hi => ?_, hh w hg fun p hp => (hf p hp).1⟩
  obtain ⟨h1, o, h2, _⟩ := mem_ready.1 hi
  have : i ∈ unl ops listed := List.mem_filter.2 ⟨List.mem_range.2 (Array.getElem?_eq_some_iff.1 h2).1, by simp [h1]⟩
  rw [hu] at this; cases this
 | succ f ih =>
  intro listed a w L hl hcl hg hf hh
  refine ⟨fun hr => ?_, fun i hi => ?_⟩
  ·
   obtain ⟨i, us, hu⟩ : ∃ i us, unl ops listed = i :: us := by
    cases e : unl ops listed with
    | nil => rw [e] at hl; cases hl
    | cons i us => exact ⟨i, us, rfl⟩
   have him : i ∈ unl ops listed := by rw [hu]; simp
   have hs : (unl ops listed).Pairwise (· < ·) := List.Pairwise.filter _ List.pairwise_lt_range
   obtain ⟨him1, him2⟩ := List.mem_filter.1 him
   have hlt : i < ops.size := List.mem_range.1 him1
   have hrd : i ∈ Region.ready md ops listed := by
    refine mem_ready.2 ⟨by simpa using him2, ops[i], by simp [hlt], fun e he hb => ?_⟩
    have h1 := hB i (List.mem_range.2 hlt)
    rw [show ops[i]? = some ops[i] by simp [hlt]] at h1
    simp only [Bool.and_eq_true] at h1
    have h2 := Array.all_eq_true_iff_forall_mem.1 h1.1 e he
    rw [hb] at h2
    have h3 : e.on < i := by simpa using h2
    cases hv : listed.getD e.on true with
    | true =>
     rcases Nat.lt_or_ge e.on listed.size with h | h
     ·simp [Array.getD_eq_getD_getElem?, h] at hv ⊢; exact hv
     ·have : listed.getD i true = true := by simp [Array.getD_eq_getD_getElem?, Array.getElem?_eq_none (show listed.size ≤ i by omega)]
      rw [this] at him2; simp at him2
    | false =>
     have hm : e.on ∈ unl ops listed := List.mem_filter.2 ⟨List.mem_range.2 (by omega), by simp [hv]⟩
     rw [hu] at hm hs
     rcases List.mem_cons.1 hm with e1 | e1
     ·omega
     ·have := (List.pairwise_cons.1 hs).1 _ e1; omega
   rw [hr] at hrd; cases hrd
  ·obtain ⟨hun, o, ho, hall⟩ := mem_ready.1 hi
   have hlt : i < ops.size := (Array.getElem?_eq_some_iff.1 ho).1
   obtain ⟨pre, post, e, hpre, hnext⟩ := unl_split (ops := ops) (listed := listed) (i := i) (List.mem_filter.2 ⟨List.mem_range.2 hlt, by simp [hun]⟩)
   have hap : ∀ k ∈ pre, fAnc am i k = false ∧ ∃ ok, ops[k]? = some ok ∧ o.apart ops ok = true := by
    intro k hk
    obtain ⟨h1, h2⟩ := hpre k hk
    have hno : fAnc am i k = false := by
     cases hc : fAnc am i k with
     | false => rfl
     | true => have := fanc_listed hB hcl i o ho hall k hc; rw [getD_tf h2] at this; cases this
    refine ⟨hno, ?_⟩
    have h3 := hB i (List.mem_range.2 hlt)
    rw [ho] at h3
    simp only [Bool.and_eq_true] at h3
    have h4 := List.all_eq_true.1 h3.2 k (List.mem_range.2 h1)
    rw [hno] at h4
    simp only [Bool.false_eq_true, if_false] at h4
    cases hk : ops[k]? with
    | none => rw [hk] at h4; cases h4
    | some ok => rw [hk] at h4; exact ⟨ok, rfl, h4⟩
   have hfa : flA am L i w := fun p hp _ => (hf p hp).1
   rw [e] at hh
   have hdo := fl_do ho hsel hg pre a L hap hfa hh
   have hlen : (unl ops (listed.setIfInBounds i true)).length = f := by
    rw [hnext]; rw [e] at hl; simp at hl ⊢; omega
   have go : ∀ (v : Value) (Lx : List (Nat × (World → Prop))) (w' : World), flRes P ops cl sp i o a w v Lx → Grow w w' → (∀ p ∈ Lx, p.2 w' ∧ ∀ w1 w2, p.2 w1 → Grow w1 w2 → p.2 w2) → wpAny P md ops Q f (listed.setIfInBounds i true) (a.put o.dst v) w' := by
    intro v Lx w' hr hgw hfx
    refine ih _ _ _ (L ++ Lx) hlen (closed_set hcl hi) (Grow.trans _ _ _ hg hgw) (fun p hp => ?_) ?_
    ·rcases List.mem_append.1 hp with hp | hp
     ·exact ⟨(hf p hp).2 _ _ (hf p hp).1 hgw, (hf p hp).2⟩
     ·exact hfx p hp
    ·rw [hnext]; exact fl_next ho hsel hg pre a L hap hfa hr hh
   unfold wpOp
   rw [ho]
   simp only
   unfold flDo at hdo
   rw [ho] at hdo
   simp only at hdo
   split
   ·rename_i hw
    left
    have hdo := hdo hw
    split at hdo
    ·rename_i hc
     obtain ⟨v, hv⟩ := hdo
     unfold Oper.wp
     rw [hv]
     exact go v [] w (by unfold flRes; rw [if_pos hw, if_pos hc]; exact ⟨hv, rfl⟩) (Grow.refl w) (fun p hp => by cases hp)
    ·rename_i hc
     refine wp_of_vwp hdo fun v w' hv => ?_
     obtain ⟨hgw, x, rfl, hx⟩ := hv
     refine go _ [(i, (sp i).ok x)] w' (by unfold flRes; rw [if_pos hw, if_neg hc]; exact ⟨x, rfl, rfl⟩) hgw (fun p hp => ?_)
     simp only [List.mem_singleton] at hp
     subst hp
     exact ⟨hx, fun w1 w2 h k => (sp i).st x w1 w2 h k⟩
   ·rename_i hw
    exact go undef [] w (by unfold flRes; rw [if_neg hw]; exact ⟨rfl, rfl⟩) (Grow.refl w) (fun p hp => by cases hp)
theorem all_un (n : Nat) : ∀ i ∈ List.range n, (!(Array.replicate n false).getD i true) = true := by
 intro i hi
 have : i < n := List.mem_range.1 hi
 simp [Array.getD_eq_getD_getElem?, this]
theorem wp_flow {id : Nat} {a : Act} {w : World} {l : List Oper} (am cl : List Nat) (sp : Nat → Sp) (hm : P.follows .mixedOrders = true) (hB : flowB .any l.toArray am = true)
  (h : ∀ w2, Drawn w w2 → wpL P l.toArray am cl sp w2 Q (List.range l.length) a []) : (Code.region id l.toArray true).wp P Q a w := by
 replace h := h w.drew (Drawn.one w)
 refine wp_region_any hm (wpAny_of_L (am := am) (w0 := w.drew) (cl := cl) (sp := sp) hB _ _ _ _ [] ?_ ?_ (Grow.refl _) (fun p hp => by cases hp) ?_)
 ·unfold unl
  rw [List.filter_eq_self.2 (all_un l.toArray.size)]
  simp
 ·intro j oj _ hj
  rw [Array.getD_eq_getD_getElem?, Array.getElem?_replicate] at hj
  split at hj <;> simp at hj
 ·unfold unl
  rw [List.filter_eq_self.2 (all_un l.toArray.size)]
  simpa using h
variable {o : Oper} {i : Nat} {us : List Nat} {a : Act} {L : List (Nat × (World → Prop))}
theorem fl_done (h : ∀ w, Grow w0 w → (∀ p ∈ L, p.2 w) → Q .normal a w) : wpL P ops am cl sp w0 Q [] a L := h
theorem fl_calm {v : Value} (hi : ops[i]? = some o) (hc : plCls cl i ≤ 2) (hw : Region.wanted o (yielded ops a.tmps) = true) (h : ∀ w, Grow w0 w → flA am L i w → (execOp a.eval o).run P w = .ok (.value v) w)
  (hk : ∀ K : Act → Prop, (∀ a, wpL P ops am cl sp w0 Q us a L → K a) → K (a.put o.dst v)) : wpL P ops am cl sp w0 Q (i :: us) a L := by
 unfold wpL; rw [hi]; simp only; rw [if_pos hw, if_pos hc]; exact ⟨v, h, hk _ fun _ h => h⟩
theorem fl_skip (hi : ops[i]? = some o) (hw : Region.wanted o (yielded ops a.tmps) = false)
  (hk : ∀ K : Act → Prop, (∀ a, wpL P ops am cl sp w0 Q us a L → K a) → K (a.put o.dst undef)) : wpL P ops am cl sp w0 Q (i :: us) a L := by
 unfold wpL; rw [hi]; simp only; rw [if_neg (by rw [hw]; simp)]; exact hk _ fun _ h => h
theorem fl_act (hi : ops[i]? = some o) (hc : plCls cl i = 3) (hw : Region.wanted o (yielded ops a.tmps) = true)
  (h : ∀ w, Grow w0 w → flA am L i w → vwp P o a w fun v w' => Grow w w' ∧ ∃ x, v = (sp i).val x ∧ (sp i).ok x w')
  (hk : ∀ x, ∀ K : Act → Prop, (∀ a, wpL P ops am cl sp w0 Q us a (L ++ [(i, (sp i).ok x)]) → K a) → K (a.put o.dst ((sp i).val x))) : wpL P ops am cl sp w0 Q (i :: us) a L := by
 unfold wpL; rw [hi]; simp only; rw [if_pos hw, if_neg (by omega)]; exact ⟨h, fun x => hk x _ fun _ h => h⟩
theorem fl_call {f : FuncId} {args : Array Value} (hi : ops[i]? = some o) (hc : plCls cl i = 3) (hw : Region.wanted o (yielded ops a.tmps) = true) (hr : ∀ w, (execOp a.eval o).run P w = .ok (.enter f args) w)
  (h : ∀ w, Grow w0 w → flA am L i w → Calls P f args w fun e w' => ∃ x, e = .returned ((sp i).val x) ∧ (sp i).ok x w' ∧ Grow w w')
  (hk : ∀ x, ∀ K : Act → Prop, (∀ a, wpL P ops am cl sp w0 Q us a (L ++ [(i, (sp i).ok x)]) → K a) → K (a.put o.dst ((sp i).val x))) : wpL P ops am cl sp w0 Q (i :: us) a L := by
 refine fl_act hi hc hw (fun w hg hf => ?_) hk
 unfold vwp
 rw [hr w]
 exact (h w hg hf).mono fun e w' ⟨x, h1, h2, h3⟩ => ⟨_, h1, h3, x, rfl, h2⟩
theorem fl_callv {v : Value} {f : FuncId} {args : Array Value} (hi : ops[i]? = some o) (hc : plCls cl i = 3) (hS : sp i = spV v) (hw : Region.wanted o (yielded ops a.tmps) = true) (hr : ∀ w, (execOp a.eval o).run P w = .ok (.enter f args) w)
  (h : ∀ w, Grow w0 w → flA am L i w → Calls P f args w fun e w' => e = .returned v ∧ Below w.heap.size w w')
  (hk : ∀ K : Act → Prop, (∀ a, wpL P ops am cl sp w0 Q us a (L ++ [(i, fun _ => True)]) → K a) → K (a.put o.dst v)) : wpL P ops am cl sp w0 Q (i :: us) a L := by
 refine fl_call hi hc hw hr ?_ ?_
 ·rw [hS]; intro w hg hf; exact (h w hg hf).mono fun e w' ⟨h1, h2⟩ => ⟨(), h1, trivial, h2⟩
 ·rw [hS]; intro x K hK; exact hk K hK
end
attribute [irreducible] wpL
end Go.Proofs.YtphmefhnffoafaaGreatDoor
namespace Go.Proofs.YtphmefhnffoafaaGreatDoor
open Go.RowKit Go.Shelf
theorem parts1 {w : World} {g : Nat} {t : TypeId} {A1 : Option Addr} {n1 c1 : Nat} {b1 : List UInt8} (hb : Blk w g t [.slice A1 n1 c1]) (h1 : Sl w w.heap.size 1 A1 n1 (b1.map B)) (k1 : n1 ≤ c1) :
  ∃ ps, Parts w w.heap.size (some ⟨g, 0, none⟩) 1 ps ∧ ps.map Prod.snd = [b1] :=
 ⟨[(.slice A1 n1 c1, b1)], parts_blk hb rfl (by intro p hp; simp only [List.mem_cons, List.not_mem_nil, or_false] at hp; subst hp; exact part_mk h1 k1), rfl⟩
theorem punder_any {m : UInt8} {A : Option Addr} {n c : Nat} {ls : List (List UInt8)} {xs : List Value} (hx : Dig xs (sha (underB m ls))) {w : World} (hp : ∃ ps, Parts w w.heap.size A n ps ∧ ps.map Prod.snd = ls) (hn : n ≤ 400000) (hl : ∀ l ∈ ls, l.length ≤ 1000000) (ht : Tabs w) :
  Calls Tryz.prog 78 #[.int .u8 (b8 m), .slice A n c] w fun e w' => e = .returned (.agg xs.toArray) ∧ Below w.heap.size w w' := by
 obtain ⟨ps, h1, rfl⟩ := hp
 exact under_any m A n c ps hx w h1 hn (fun p hp => hl _ (List.mem_map_of_mem hp)) ht
theorem Dig.eql_b {xs ys : List Value} {a b : List UInt8} {d : Bool} (h : Dig xs a) (k : Dig ys b) (hd : (a == b) = d) (w : World) : (binOp .eql 24 (.agg xs.toArray) (.agg ys.toArray)).run Tryz.prog w = .ok (.bool d) w := by rw [h.eql k, hd]
attribute [local go_sem ↓ high] add_w
attribute [local go_sem high] xor_w and_w or_w not_w shr_w shl_w wrap_b8
theorem all_words (l : List UInt32) : ∀ v ∈ l.map W, v.oneCell' = true := fun v hv => by obtain ⟨x, _, rfl⟩ := List.mem_map.1 hv; rfl
theorem not_sub (x : UInt32) : Op.intArith .sub .u32 4294967295 (w32 x) = pure (.int .u32 (w32 (~~~x))) := by
 have : IntKind.u32.wrap (4294967295 - w32 x) = w32 (~~~x) := by
  have h1 : (~~~x).toNat = 4294967295 - x.toNat := by rw [UInt32.toNat_not]; rfl
  have := x.toNat_lt
  rw [IntKind.wrap_u32]
  unfold w32
  rw [h1]
  omega
 show pure (Value.int .u32 (IntKind.u32.wrap (4294967295 - w32 x))) = _
 rw [this]
attribute [local go_sem ↓ high] not_sub
theorem stN_zero (b : List UInt8) (h : St) : stN b h 0 = h := by rw [stN]
theorem stN_succ (b : List UInt8) (h : St) (k : Nat) : stN b h (k + 1) = roundF (roundKs[k]?.getD 0) (sw b k) (stN b h k) := by rw [stN]
theorem grown_alloc (w : World) (o : Obj) : w.grownBy (w.alloc o) none := ⟨rfl, rfl, rfl, by simp, fun k hk _ => Below.heap_alloc w o k hk⟩
theorem stB_zero (m : List UInt8) : stB m 0 = firstSt := by rw [← stL_range]; show stL m [] = _; rw [stL]; rfl
theorem stB_succ (m : List UInt8) (k : Nat) : stB m (k + 1) = compress roundKs (stB m k) (chunkAt m k) := by
 rw [← stL_range, List.range_succ, stL_snoc, stL_range]
theorem range_snoc {α : Type} (f : Nat → α) (k : Nat) : (List.range (k + 1)).map f = (List.range k).map f ++ [f k] := by rw [List.range_succ]; simp
structure KeepR (g s1 s2 gm gh nb cm ch : Nat) (m : List UInt8) (hl : List Value) (w V : World) : Prop where
 msg : V.ownsRow (g + 1) 5 1 (.slice (some ⟨gm, 0, none⟩) (64 * nb) cm) (64 * nb) (m.map B)
 hs : V.ownsRow s1 132 1 (.slice (some ⟨gh, 0, none⟩) 8 ch) 8 hl
 res : Blk V g 24 (List.replicate 32 (B 0))
 low : Below g w V
 sz : s2 ≤ V.heap.size
 lm : gm < s2
 lh : gh < s2
 lg : g < s2
 mh : gm < gh
 g0 : g < gh
section
variable {g s1 s2 s3 gm gh nb cm ch : Nat} {m : List UInt8} {hl : List Value} {w V V' : World}
theorem KeepR.grown {row : Option Nat} (h : KeepR g s1 s2 gm gh nb cm ch m hl w V) (hg : V.grownBy V' row) (hr : ∀ k, row = some k → s2 ≤ k) : KeepR g s1 s2 gm gh nb cm ch m hl w V' :=
 ⟨own_kept h.msg hg (fun k hk e => by cases hk; have := hr _ e.symm; have := h.lm; omega), own_kept h.hs hg (fun k hk e => by cases hk; have := hr _ e.symm; have := h.lh; omega),
  h.res.grown hg (fun e => by have := hr _ e.symm; have := h.lg; omega), h.low.grown hg (Nat.le_trans (Nat.le_of_lt h.lg) h.sz) (fun k hk => by have := hr k hk; have := h.lg; omega), Nat.le_trans h.sz hg.size, h.lm, h.lh, h.lg, h.mh, h.g0⟩
theorem KeepR.drawn (h : KeepR g s1 s2 gm gh nb cm ch m hl w V) (hd : Drawn V V') : KeepR g s1 s2 gm gh nb cm ch m hl w V' :=
 ⟨hd.own h.msg, hd.own h.hs, hd.blk h.res, hd.below h.low, by rw [hd.size]; exact h.sz, h.lm, h.lh, h.lg, h.mh, h.g0⟩
theorem KeepR.more (h : KeepR g s1 s2 gm gh nb cm ch m hl w V) (h1 : s2 ≤ s3) (h2 : s3 ≤ V.heap.size) : KeepR g s1 s3 gm gh nb cm ch m hl w V :=
 ⟨h.msg, h.hs, h.res, h.low, h2, Nat.lt_of_lt_of_le h.lm h1, Nat.lt_of_lt_of_le h.lh h1, Nat.lt_of_lt_of_le h.lg h1, h.mh, h.g0⟩
theorem KeepR.less (h : KeepR g s1 s3 gm gh nb cm ch m hl w V) (h1 : s2 ≤ s3) (lm : gm < s2) (lh : gh < s2) (lg : g < s2) : KeepR g s1 s2 gm gh nb cm ch m hl w V :=
 ⟨h.msg, h.hs, h.res, h.low, Nat.le_trans h1 h.sz, lm, lh, lg, h.mh, h.g0⟩
theorem KeepR.store (h : KeepR g s1 s2 gm gh nb cm ch m hl w V) (k : Nat) (v : Value) : KeepR g s1 s2 gm gh nb cm ch m (hl.set k v) w (V.setCell ⟨gh, k, none⟩ v) :=
 have hg := grown_set V gh k v
 ⟨own_kept h.msg hg (fun j hj e => by cases hj; have := h.mh; cases e; omega), (h.hs.stored k v).1, h.res.grown hg (fun e => by have := h.g0; cases e; omega), h.low.grown hg (Nat.le_trans (Nat.le_of_lt h.lg) h.sz) (fun j hj => by cases hj; exact Nat.le_of_lt h.g0),
  Nat.le_trans h.sz hg.size, h.lm, h.lh, h.lg, h.mh, h.g0⟩
end
theorem range_getD {α : Type} (f : UInt8 → α) (l : List UInt8) (n : Nat) (h : l.length = n) : (List.range n).map (fun i => f (l[i]?.getD 0)) = l.map f := by
 apply List.ext_getElem (by simp [h])
 intro i h1 h2
 have hi : i < l.length := by simpa using h2
 simp [hi]
def upTo8 (s t : St) (k : Nat) (xs : List Value) : Prop := xs.length = 8 ∧ (∀ i, i < k → xs[i]? = some (W ((s.add t).at_ i))) ∧ ∀ i, k ≤ i → i < 8 → xs[i]? = some (W (s.at_ i))
theorem upTo8_zero (s t : St) : upTo8 s t 0 (s.toList.map W) := ⟨rfl, fun i hi => absurd hi (by omega), fun i _ hi => s.get_at i hi⟩
theorem upTo8_all {s t : St} {xs : List Value} (h : upTo8 s t 8 xs) : xs = (s.add t).toList.map W := by
 apply List.ext_getElem?
 intro i
 by_cases hi : i < 8
 ·rw [h.2.1 i hi, (s.add t).get_at i hi]
 ·rw [List.getElem?_eq_none (by rw [h.1]; omega), List.getElem?_eq_none (by rw [List.length_map, St.length]; omega)]
theorem upTo8_set {s t : St} {k : Nat} {xs : List Value} (h : upTo8 s t k xs) (hk : k < 8) : upTo8 s t (k + 1) (xs.set k (W (s.at_ k + t.at_ k))) := by
 refine ⟨by rw [List.length_set]; exact h.1, fun i hi => ?_, fun i h1 h2 => ?_⟩
 ·rw [List.getElem?_set]
  by_cases e : k = i
  ·subst e
   rw [if_pos rfl, if_pos (by rw [h.1]; exact hk), St.add_at s t k hk]
  ·rw [if_neg e]; exact h.2.1 i (by omega)
 ·rw [List.getElem?_set, if_neg (by omega)]
  exact h.2.2 i (by omega) h2
theorem outB_get (s : St) (i : Nat) (hi : i < 32) : (outB s)[i]? = some (beByte (s.at_ (i / 4)).toNat 4 (i % 4)) := by
 have h1 := outB_take s (i / 4) (by omega)
 have hl1 : ((outB s).take (4 * (i / 4))).length = 4 * (i / 4) := by rw [List.length_take, outB_length]; omega
 have h2 : (outB s)[i]? = ((outB s).take (4 * (i / 4 + 1)))[i]? := by rw [List.getElem?_take_of_lt (by omega)]
 rw [h2, h1, List.getElem?_append_right (by rw [hl1]; omega), hl1, show i - 4 * (i / 4) = i % 4 by omega, beBytes, List.getElem?_map, List.getElem?_range (by omega)]
 rfl
def loopsOf : Code → List Code
 | .loop c => c :: loopsOf c
 | .seq a b => loopsOf a ++ loopsOf b
 | .block _ c => loopsOf c
 | .scope c => loopsOf c
 | .cond _ a b => loopsOf a ++ loopsOf b
 | _ => []
noncomputable def rsBody (k : Nat) : Code := ((Tryz.f89.body.map loopsOf).getD []).getD k .skip
end Go.Proofs.YtphmefhnffoafaaGreatDoor
namespace Go.Proofs.YtphmefhnffoafaaGreatDoor
open Go.RowKit Go.Shelf
set_option linter.unusedVariables false
attribute [local go_sem ↓ high] add_w
attribute [local go_sem high] xor_w and_w or_w not_w shr_w shl_w wrap_b8
set_option maxRecDepth 100000 in
set_option maxHeartbeats 2000000 in
theorem rs_pad {o0 o1 o2 o3 o4 o5 o6 o8 o9 o10 o11 o12 o13 o14 o15 o16 o17 o18 o19 o20 o21 o22 o23 o24 o25 o26 o27 o28 o29 o30 o31 o32 o33 o34 o35 o36 o37 o38 o39 o40 o41 o42 o43 o44 o45 o46 o47 o48 o49 o50 o51 o52 o53 o54 o55 o56 o57 o58 o59 o60 o61 o62 o63 o64 o65 o66 o67 o68 o69 o70 o71 o72 o73 o74 o75 o76 o77 o78 o79 o80 o81 o82 o83 o84 o85 o86 o87 o88 o89 o90 o91 o92 o93 o94 o95 o96 o97 o98 o99 o100 o101 o102 o103 o104 o105 o106 o107 o108 o109 o110 o111 o112 o113 o114 o115 o116 o117 o118 o119 o120 o121 o122 o123 o124 o125 o126 o127 o128 o129 o130 o131 o132 o133 o134 o135 o136 o137 o138 o139 o140 o141 o142 o143 o144 o145 o146 o147 o148 o149 o150 o151 o152 o153 o154 o155 o156 o157 o158 o159 o160 o161 o162 o163 o164 o165 o166 o167 o168 o169 o170 o171 o172 o173 o174 o175 o176 o177 o178 o179 o180 o181 o182 o183 o184 o185 o186 o187 o188 o189 o190 o191 o192 o193 o194 o195 o196 o197 o198 o199 o200 o201 o202 o203 o204 o205 o206 o207 o208 o209 o210 o211 o212 o213 o214 o215 o216 o217 o218 o219 o220 o221 o222 o223 o224 o225 o226 o227 o228 o229 o230 o231 o232 o233 o234 o235 o236 o237 o238 o239 o240 o241 o242 o243 o244 o245 o246 o247 o248 o249 o250 o251 o252 o253 o254 o255 o256 o257 o258 o259 o260 o261 o262 o263 o264 o265 o266 o267 o268 o269 o270 o271 o272 o273 o274 o275 o276 o277 o278 o279 o280 o281 o282 o283 o284 o285 o286 o287 o288 o289 o290 o291 o292 o293 o294 o295 o296 o297 o298 o299 o300 o301 o302 o303 o304 o305 o306 o307 o308 o309 o310 o311 o312 o313 o314 o315 o316 o317 o318 o319 o320 o321 o322 o323 : Value} {Q0 : Exit → Act → World → Prop} {g n Z : Nat} {bs : List UInt8} {A3 : Option Addr} {c3 : Nat} {w w3 : World} (HZ : Hid (∀ j, j < Z → (n + 1 + j) % 64 ≠ 56)) (HZE : Hid ((n + 1 + Z) % 64 = 56)) (hl : n ≤ 1099511627776) (hz1 : Z ≤ 63)
  (HO3 : Hid (w3.ownsRow (g + 1) 5 1 (.slice A3 (n + 1) c3) (n + 1) ((bs ++ [128]).map B))) (HB3 : Hid (Blk w3 g 24 (List.replicate 32 (B 0)))) (HBW3 : Hid (Below g w w3)) (HSZ3 : Hid (g + 1 ≤ w3.heap.size))
  (HEX : Hid (∀ {u_30 u_31 u_32 u_33 u_34 u_35 u_36 : Value} {A' : Option Addr} {c' : Nat} {wr : World}, wr.ownsRow (g + 1) 5 1 (.slice A' (n + 1 + Z) c') (n + 1 + Z) ((bs ++ [128] ++ List.replicate Z 0).map B) → Blk wr g 24 (List.replicate 32 (B 0)) → Below g w wr → g + 1 ≤ wr.heap.size → Q0 (.exit 0) ⟨(o0 :: o1 :: o2 :: o3 :: o4 :: o5 :: o6 :: (.slice A' (n + 1 + Z) c') :: o8 :: o9 :: o10 :: o11 :: o12 :: o13 :: o14 :: o15 :: o16 :: o17 :: o18 :: o19 :: o20 :: o21 :: o22 :: o23 :: o24 :: o25 :: o26 :: o27 :: o28 :: o29 :: u_30 :: u_31 :: u_32 :: u_33 :: u_34 :: u_35 :: u_36 :: o37 :: o38 :: o39 :: o40 :: o41 :: o42 :: o43 :: o44 :: o45 :: o46 :: o47 :: o48 :: o49 :: o50 :: o51 :: o52 :: o53 :: o54 :: o55 :: o56 :: o57 :: o58 :: o59 :: o60 :: o61 :: o62 :: o63 :: o64 :: o65 :: o66 :: o67 :: o68 :: o69 :: o70 :: o71 :: o72 :: o73 :: o74 :: o75 :: o76 :: o77 :: o78 :: o79 :: o80 :: o81 :: o82 :: o83 :: o84 :: o85 :: o86 :: o87 :: o88 :: o89 :: o90 :: o91 :: o92 :: o93 :: o94 :: o95 :: o96 :: o97 :: o98 :: o99 :: o100 :: o101 :: o102 :: o103 :: o104 :: o105 :: o106 :: o107 :: o108 :: o109 :: o110 :: o111 :: o112 :: o113 :: o114 :: o115 :: o116 :: o117 :: o118 :: o119 :: o120 :: o121 :: o122 :: o123 :: o124 :: o125 :: o126 :: o127 :: o128 :: o129 :: o130 :: o131 :: o132 :: o133 :: o134 :: o135 :: o136 :: o137 :: o138 :: o139 :: o140 :: o141 :: o142 :: o143 :: o144 :: o145 :: o146 :: o147 :: o148 :: o149 :: o150 :: o151 :: o152 :: o153 :: o154 :: o155 :: o156 :: o157 :: o158 :: o159 :: o160 :: o161 :: o162 :: o163 :: o164 :: o165 :: o166 :: o167 :: o168 :: o169 :: o170 :: o171 :: o172 :: o173 :: o174 :: o175 :: o176 :: o177 :: o178 :: o179 :: o180 :: o181 :: o182 :: o183 :: o184 :: o185 :: o186 :: o187 :: o188 :: o189 :: o190 :: o191 :: o192 :: o193 :: o194 :: o195 :: o196 :: o197 :: o198 :: o199 :: o200 :: o201 :: o202 :: o203 :: o204 :: o205 :: o206 :: o207 :: o208 :: o209 :: o210 :: o211 :: o212 :: o213 :: o214 :: o215 :: o216 :: o217 :: o218 :: o219 :: o220 :: o221 :: o222 :: o223 :: o224 :: o225 :: o226 :: o227 :: o228 :: o229 :: o230 :: o231 :: o232 :: o233 :: o234 :: o235 :: o236 :: o237 :: o238 :: o239 :: o240 :: o241 :: o242 :: o243 :: o244 :: o245 :: o246 :: o247 :: o248 :: o249 :: o250 :: o251 :: o252 :: o253 :: o254 :: o255 :: o256 :: o257 :: o258 :: o259 :: o260 :: o261 :: o262 :: o263 :: o264 :: o265 :: o266 :: o267 :: o268 :: o269 :: o270 :: o271 :: o272 :: o273 :: o274 :: o275 :: o276 :: o277 :: o278 :: o279 :: o280 :: o281 :: o282 :: o283 :: o284 :: o285 :: o286 :: o287 :: o288 :: o289 :: o290 :: o291 :: o292 :: o293 :: o294 :: o295 :: o296 :: o297 :: o298 :: o299 :: o300 :: o301 :: o302 :: o303 :: o304 :: o305 :: o306 :: o307 :: o308 :: o309 :: o310 :: o311 :: o312 :: o313 :: o314 :: o315 :: o316 :: o317 :: o318 :: o319 :: o320 :: o321 :: o322 :: o323 :: []).toArray, []⟩ wr)) :
  Code.wp Tryz.prog (.loop (rsBody 0)) Q0 ⟨(o0 :: o1 :: o2 :: o3 :: o4 :: o5 :: o6 :: (.slice A3 (n + 1) c3) :: o8 :: o9 :: o10 :: o11 :: o12 :: o13 :: o14 :: o15 :: o16 :: o17 :: o18 :: o19 :: o20 :: o21 :: o22 :: o23 :: o24 :: o25 :: o26 :: o27 :: o28 :: o29 :: o30 :: o31 :: o32 :: o33 :: o34 :: o35 :: o36 :: o37 :: o38 :: o39 :: o40 :: o41 :: o42 :: o43 :: o44 :: o45 :: o46 :: o47 :: o48 :: o49 :: o50 :: o51 :: o52 :: o53 :: o54 :: o55 :: o56 :: o57 :: o58 :: o59 :: o60 :: o61 :: o62 :: o63 :: o64 :: o65 :: o66 :: o67 :: o68 :: o69 :: o70 :: o71 :: o72 :: o73 :: o74 :: o75 :: o76 :: o77 :: o78 :: o79 :: o80 :: o81 :: o82 :: o83 :: o84 :: o85 :: o86 :: o87 :: o88 :: o89 :: o90 :: o91 :: o92 :: o93 :: o94 :: o95 :: o96 :: o97 :: o98 :: o99 :: o100 :: o101 :: o102 :: o103 :: o104 :: o105 :: o106 :: o107 :: o108 :: o109 :: o110 :: o111 :: o112 :: o113 :: o114 :: o115 :: o116 :: o117 :: o118 :: o119 :: o120 :: o121 :: o122 :: o123 :: o124 :: o125 :: o126 :: o127 :: o128 :: o129 :: o130 :: o131 :: o132 :: o133 :: o134 :: o135 :: o136 :: o137 :: o138 :: o139 :: o140 :: o141 :: o142 :: o143 :: o144 :: o145 :: o146 :: o147 :: o148 :: o149 :: o150 :: o151 :: o152 :: o153 :: o154 :: o155 :: o156 :: o157 :: o158 :: o159 :: o160 :: o161 :: o162 :: o163 :: o164 :: o165 :: o166 :: o167 :: o168 :: o169 :: o170 :: o171 :: o172 :: o173 :: o174 :: o175 :: o176 :: o177 :: o178 :: o179 :: o180 :: o181 :: o182 :: o183 :: o184 :: o185 :: o186 :: o187 :: o188 :: o189 :: o190 :: o191 :: o192 :: o193 :: o194 :: o195 :: o196 :: o197 :: o198 :: o199 :: o200 :: o201 :: o202 :: o203 :: o204 :: o205 :: o206 :: o207 :: o208 :: o209 :: o210 :: o211 :: o212 :: o213 :: o214 :: o215 :: o216 :: o217 :: o218 :: o219 :: o220 :: o221 :: o222 :: o223 :: o224 :: o225 :: o226 :: o227 :: o228 :: o229 :: o230 :: o231 :: o232 :: o233 :: o234 :: o235 :: o236 :: o237 :: o238 :: o239 :: o240 :: o241 :: o242 :: o243 :: o244 :: o245 :: o246 :: o247 :: o248 :: o249 :: o250 :: o251 :: o252 :: o253 :: o254 :: o255 :: o256 :: o257 :: o258 :: o259 :: o260 :: o261 :: o262 :: o263 :: o264 :: o265 :: o266 :: o267 :: o268 :: o269 :: o270 :: o271 :: o272 :: o273 :: o274 :: o275 :: o276 :: o277 :: o278 :: o279 :: o280 :: o281 :: o282 :: o283 :: o284 :: o285 :: o286 :: o287 :: o288 :: o289 :: o290 :: o291 :: o292 :: o293 :: o294 :: o295 :: o296 :: o297 :: o298 :: o299 :: o300 :: o301 :: o302 :: o303 :: o304 :: o305 :: o306 :: o307 :: o308 :: o309 :: o310 :: o311 :: o312 :: o313 :: o314 :: o315 :: o316 :: o317 :: o318 :: o319 :: o320 :: o321 :: o322 :: o323 :: []).toArray, []⟩ w3 := by
 conv => arg 2; arg 1; whnf
 go_loopw [7] (fun v wr => ∃ j : Nat, ∃ A' c', j ≤ Z ∧ v = .slice A' (n + 1 + j) c' ∧ Hid (wr.ownsRow (g + 1) 5 1 (.slice A' (n + 1 + j) c') (n + 1 + j) ((bs ++ [128] ++ List.replicate j 0).map B)) ∧ Hid (Blk wr g 24 (List.replicate 32 (B 0))) ∧ Hid (Below g w wr) ∧ Hid (g + 1 ≤ wr.heap.size)) (fun v _ => match v with | .slice _ m _ => 2000 + n - m | _ => 0)
 case atStart => exact ⟨0, A3, c3, by omega, rfl, (show w3.ownsRow _ _ _ _ _ _ by simpa [i128] using HO3.out), HB3, HBW3, HSZ3⟩
 case round =>
  obtain ⟨j, A4, c4, hj, rfl, hown, hblk, hbw, hsz⟩ := hrel
  by_cases hlt : j < Z
  ·have t1 : (((n + 1 + j : Nat) : Int) % 64 != 56) = true := by
    have := HZ.out j hlt
    rw [bne_iff_ne]; omega
   have t2 : (((n : Int) + 1 + (j : Int)) % 64 != 56) = true := by
    have := HZ.out j hlt
    rw [bne_iff_ne]; omega
   go_wp2_with (at_builtin; refine wpl_app1 rfl rfl el_u8 hown.out rfl (m := 1) rfl rfl ?_ ?_ ?_ hsz.out ?_)
   ·simp [Value.oneCell']
   ·omega
   ·omega
   ·intro A5 c5 w5 ho hg _
    have hb3 := below_grown hbw.out hg (by have := hsz.out; omega) (fun j hj => by have := own_from hown.out j hj; omega)
    have HO5 := kp ho
    have HB5 := kp (hblk.out.grown hg (fun e => by have := own_from hown.out g e.symm; omega))
    have HBW5 := kp hb3
    have HSZ5 := kp (Nat.le_trans hsz.out hg.size)
    clear ho hb3 hg
    go_wp2_with fail
    go_roundw
    case rel =>
     refine ⟨j + 1, A5, c5, by omega, rfl, ?_, HB5, HBW5, HSZ5⟩
     have h5 := HO5.out
     show w5.ownsRow _ _ _ _ _ _
     rw [List.replicate_succ', show n + 1 + (j + 1) = n + 1 + j + 1 by omega]
     simpa [i0] using h5
    case measure => simp; omega
  ·obtain rfl : j = Z := by omega
   have t1 : (((n + 1 + j : Nat) : Int) % 64 != 56) = false := by
    have := HZE.out
    rw [bne_eq_false_iff_eq]; omega
   have t2 : (((n : Int) + 1 + (j : Int)) % 64 != 56) = false := by
    have := HZE.out
    rw [bne_eq_false_iff_eq]; omega
   go_wp2_with fail
   exact HEX.out hown.out hblk.out hbw.out hsz.out
end Go.Proofs.YtphmefhnffoafaaGreatDoor

/- A region that draws its order, walked once in the order of the text: what acts (calls, new rows) yields a value of a form given ahead (Sp) with a fact that lasts while memory grows; no order need be looked at. No program in sight. -/
import Derived.Test.YtofhohofaedokaaMarksPlayB6
import Derived.Test.YtofhohofaedokaaMarksPlayB7
import Derived.Test.YtofhohofaedokaaMarksPlayB8
import Derived.Test.YtofhohofaedokaaMarksPlayB3
import Derived.Test.YtofhohofaedokaaMarksPlayB5
set_option linter.unusedSimpArgs false
/- A region that draws its order, walked once in the order of the text: what acts (calls, new rows) yields a value of a form given ahead (Sp) with a fact that lasts while memory grows; no order need be looked at. No program in sight. -/
namespace Go.Proofs.Ytofhohofaedokaa
open Go.RowKit

/-- The form of what an operation yields: 'val x', with a fact that lasts. -/
structure Sp where
  X : Type
  d : X
  val : X → Value
  ok : X → World → Prop
  st : ∀ x w w', ok x w → Grow w w' → ok x w'
/-- A value known ahead. -/
def spV (v : Value) : Sp := ⟨Unit, (), fun _ => v, fun _ _ => True, fun _ _ _ _ _ => trivial⟩

def vwp (P : Program) (o : Oper) (a : Act) (w : World) (R : Value → World → Prop) : Prop :=
  match (execOp a.eval o).run P w with
  | .ok (.value v) w' => R v w'
  | .ok .skip w' => R undef w'
  | .ok (.enter f args) w' => Calls P f args w' fun e w'' => ∃ v, e = .returned v ∧ R v w''
  | .ok (.row row args) w' => Rows P row args w' R
  | _ => False
theorem vwp_mono {P : Program} {o : Oper} {a : Act} {w : World} {R R' : Value → World → Prop} (h : ∀ v w, R v w → R' v w) (hh : vwp P o a w R) : vwp P o a w R' := by
  unfold vwp at *
  split at hh
  · exact h _ _ hh
  · exact h _ _ hh
  · exact Calls.mono hh fun e w'' ⟨v, h1, h2⟩ => ⟨v, h1, h _ _ h2⟩
  · exact Rows.mono hh fun _ _ he => h _ _ he
  · exact hh.elim
theorem vwp_same {P : Program} {o : Oper} {a a' : Act} {w : World} {R : Value → World → Prop} (he : execOp a'.eval o = execOp a.eval o) (hh : vwp P o a w R) : vwp P o a' w R := by
  unfold vwp at *; rw [he]; exact hh
theorem wp_of_vwp {P : Program} {o : Oper} {a : Act} {w : World} {R : Value → World → Prop} {K : Act → World → Prop} {Q : Exit → Act → World → Prop} (hh : vwp P o a w R) (h : ∀ v w', R v w' → K (a.put o.dst v) w') : o.wp P a w K Q := by
  unfold vwp at hh
  unfold Oper.wp
  generalize (execOp a.eval o).run P w = r at *
  cases r with
  | ok n w' =>
    cases n <;> simp only [Oper.upon] at hh ⊢
    case value => exact h _ _ hh
    case skip => exact h _ _ hh
    case enter f args =>
      refine Calls.mono hh fun e w'' he => ?_
      obtain ⟨v, rfl, hv⟩ := he
      exact h _ _ hv
    case row => exact Rows.mono hh fun _ _ he => h _ _ he
  | halt x w' => simp at hh

/-- Does i wait for k? (am: the masks of those that are waited for) -/
def fAnc (am : List Nat) (i k : Nat) : Bool := decide (k < i) && (am.getD i 0).testBit k
section
variable (P : Program) (md : Region.Mode) (ops : Array Oper) (am cl : List Nat) (sp : Nat → Sp) (w0 : World) (Q : Exit → Act → World → Prop)
def flA (am : List Nat) (L : List (Nat × (World → Prop))) (i : Nat) (w : World) : Prop := ∀ p ∈ L, fAnc am i p.1 = true → p.2 w
def wpL : List Nat → Act → List (Nat × (World → Prop)) → Prop
  | [], a, L => ∀ w, Grow w0 w → (∀ p ∈ L, p.2 w) → Q .normal a w
  | i :: us, a, L => match ops[i]? with
    | none => False
    | some o => if Region.wanted o (yielded ops a.tmps) then
        (if plCls cl i ≤ 2 then ∃ v, (∀ w, Grow w0 w → flA am L i w → (execOp a.eval o).run P w = .ok (.value v) w) ∧ wpL us (a.put o.dst v) L
        else (∀ w, Grow w0 w → flA am L i w → vwp P o a w fun v w' => Grow w w' ∧ ∃ x, v = (sp i).val x ∧ (sp i).ok x w') ∧ ∀ x, wpL us (a.put o.dst ((sp i).val x)) (L ++ [(i, (sp i).ok x)]))
      else wpL us (a.put o.dst undef) L
/-- The kernel's look. -/
def flowB : Bool := Region.noSelect ops && (List.range ops.size).all fun i => match ops[i]? with
  | none => false
  | some o => (o.after.all fun e => !Region.binds md e || decide (e.on < i)) && (List.range i).all fun k => if fAnc am i k then (o.after.any fun e => Region.binds md e && (e.on == k || fAnc am e.on k)) else (match ops[k]? with | none => false | some ok => o.apart ops ok)
end

section
variable {P : Program} {md : Region.Mode} {ops : Array Oper} {am cl : List Nat} {sp : Nat → Sp} {w0 : World} {Q : Exit → Act → World → Prop}
theorem flA_mono {L L' : List (Nat × (World → Prop))} (h : ∀ p ∈ L, p ∈ L') {i : Nat} {w : World} (hh : flA am L' i w) : flA am L i w := fun p hp => hh p (h p hp)
theorem flA.get {L : List (Nat × (World → Prop))} {i k j : Nat} {w : World} {F : World → Prop} (h : flA am L i w) (hk : L[k]? = some (j, F)) (hc : fAnc am i j = true) : F w := h (j, F) (List.mem_of_getElem? hk) hc
theorem wpL_mono : ∀ (us : List Nat) (a : Act) (L L' : List (Nat × (World → Prop))), (∀ p ∈ L, p ∈ L') → wpL P ops am cl sp w0 Q us a L → wpL P ops am cl sp w0 Q us a L'
  | [], a, L, L', h, hh => fun w hg hf => hh w hg fun p hp => hf p (h p hp)
  | i :: us, a, L, L', h, hh => by
    unfold wpL at hh ⊢
    cases ho : ops[i]? with
    | none => rw [ho] at hh; exact hh.elim
    | some o =>
      rw [ho] at hh
      simp only at hh ⊢
      split
      · rename_i hw
        rw [if_pos hw] at hh
        split
        · rename_i hc
          rw [if_pos hc] at hh
          obtain ⟨v, h1, h2⟩ := hh
          exact ⟨v, fun w hg hf => h1 w hg (flA_mono h hf), wpL_mono us _ L L' h h2⟩
        · rename_i hc
          rw [if_neg hc] at hh
          refine ⟨fun w hg hf => hh.1 w hg (flA_mono h hf), fun x => wpL_mono us _ _ _ (fun p hp => ?_) (hh.2 x)⟩
          rcases List.mem_append.1 hp with hp | hp
          · exact List.mem_append.2 (.inl (h p hp))
          · exact List.mem_append.2 (.inr hp)
      · rename_i hw
        rw [if_neg hw] at hh
        exact wpL_mono us _ L L' h hh

/-- What the operation i does now. -/
def flDo (P : Program) (ops : Array Oper) (cl : List Nat) (sp : Nat → Sp) (i : Nat) (a : Act) (w : World) : Prop :=
  match ops[i]? with
  | none => False
  | some o => Region.wanted o (yielded ops a.tmps) = true → if plCls cl i ≤ 2 then ∃ v, (execOp a.eval o).run P w = .ok (.value v) w else vwp P o a w fun v w' => Grow w w' ∧ ∃ x, v = (sp i).val x ∧ (sp i).ok x w'
/-- What it adds to the walk. -/
def flRes (P : Program) (ops : Array Oper) (cl : List Nat) (sp : Nat → Sp) (i : Nat) (o : Oper) (a : Act) (w : World) (v : Value) (Lx : List (Nat × (World → Prop))) : Prop :=
  if Region.wanted o (yielded ops a.tmps) then (if plCls cl i ≤ 2 then (execOp a.eval o).run P w = .ok (.value v) w ∧ Lx = [] else ∃ x, v = (sp i).val x ∧ Lx = [(i, (sp i).ok x)]) else v = undef ∧ Lx = []

theorem keep_put {oi ok : Oper} (hsel : ∀ cs b, oi.op ≠ .select cs b) (h3 : ∀ d, ok.dst = some d → d ∉ oi.looksAt ops) (a : Act) (u : Value) :
    execOp (a.put ok.dst u).eval oi = execOp a.eval oi ∧ Region.wanted oi (yielded ops (a.put ok.dst u).tmps) = Region.wanted oi (yielded ops a.tmps) := ⟨execOp_put oi hsel a ok.dst u h3, wanted_put oi a ok.dst u h3⟩

theorem fl_do {i : Nat} {oi : Oper} (hi : ops[i]? = some oi) (hsel : ∀ (j : Nat) (o : Oper) cs b, ops[j]? = some o → o.op ≠ .select cs b) {post : List Nat} {w : World} (hg : Grow w0 w) :
    ∀ (pre : List Nat) (a : Act) (L : List (Nat × (World → Prop))), (∀ k ∈ pre, fAnc am i k = false ∧ ∃ ok, ops[k]? = some ok ∧ oi.apart ops ok = true) → flA am L i w → wpL P ops am cl sp w0 Q (pre ++ i :: post) a L → flDo P ops cl sp i a w
  | [], a, L, hp, hf, hh => by
    unfold flDo
    simp only [List.nil_append] at hh
    unfold wpL at hh
    rw [hi] at hh ⊢
    simp only at hh ⊢
    intro hw
    rw [if_pos hw] at hh
    split
    · rename_i hc
      rw [if_pos hc] at hh
      obtain ⟨v, h1, _⟩ := hh
      exact ⟨v, h1 w hg hf⟩
    · rename_i hc
      rw [if_neg hc] at hh
      exact hh.1 w hg hf
  | k :: pre, a, L, hp, hf, hh => by
    obtain ⟨hna, ok, hok, hap⟩ := hp k (by simp)
    obtain ⟨_, _, h3⟩ := Oper.apart_spec hap
    have back : ∀ v, flDo P ops cl sp i (a.put ok.dst v) w → flDo P ops cl sp i a w := by
      intro v h
      obtain ⟨e1, e2⟩ := keep_put (ok := ok) (fun cs b => hsel i oi cs b hi) h3 a v
      unfold flDo at h ⊢
      rw [hi] at h ⊢
      simp only at h ⊢
      intro hw
      have h := h (by rw [e2]; exact hw)
      split
      · rename_i hc; rw [if_pos hc] at h; rw [← e1]; exact h
      · rename_i hc; rw [if_neg hc] at h; exact vwp_same e1.symm h
    have ih : ∀ a L, flA am L i w → wpL P ops am cl sp w0 Q (pre ++ i :: post) a L → flDo P ops cl sp i a w := fun a L hf hh => fl_do hi hsel hg pre a L (fun k hk => hp k (by simp [hk])) hf hh
    rw [List.cons_append] at hh
    unfold wpL at hh
    rw [hok] at hh
    simp only at hh
    split at hh
    · split at hh
      · obtain ⟨v, _, h2⟩ := hh
        exact back v (ih _ _ hf h2)
      · refine back _ (ih _ _ ?_ (hh.2 (sp k).d))
        intro p hp hc
        rcases List.mem_append.1 hp with hp | hp
        · exact hf p hp hc
        · simp only [List.mem_singleton] at hp
          subst hp
          rw [hna] at hc; cases hc
    · exact back _ (ih _ _ hf hh)

theorem fl_next {i : Nat} {oi : Oper} (hi : ops[i]? = some oi) (hsel : ∀ (j : Nat) (o : Oper) cs b, ops[j]? = some o → o.op ≠ .select cs b) {post : List Nat} {w : World} (hg : Grow w0 w) {v : Value} {Lx : List (Nat × (World → Prop))} :
    ∀ (pre : List Nat) (a : Act) (L : List (Nat × (World → Prop))), (∀ k ∈ pre, fAnc am i k = false ∧ ∃ ok, ops[k]? = some ok ∧ oi.apart ops ok = true) → flA am L i w → flRes P ops cl sp i oi a w v Lx → wpL P ops am cl sp w0 Q (pre ++ i :: post) a L →
      wpL P ops am cl sp w0 Q (pre ++ post) (a.put oi.dst v) (L ++ Lx)
  | [], a, L, hp, hf, hr, hh => by
    simp only [List.nil_append] at hh ⊢
    unfold wpL at hh
    rw [hi] at hh
    unfold flRes at hr
    simp only at hh
    split at hh
    · rename_i hw
      rw [if_pos hw] at hr
      split at hh
      · rename_i hc
        rw [if_pos hc] at hr
        obtain ⟨v', h1, h2⟩ := hh
        obtain ⟨r1, rfl⟩ := hr
        rw [h1 w hg hf] at r1
        cases r1
        simpa using h2
      · rename_i hc
        rw [if_neg hc] at hr
        obtain ⟨x, rfl, rfl⟩ := hr
        exact hh.2 x
    · rename_i hw
      rw [if_neg hw] at hr
      obtain ⟨rfl, rfl⟩ := hr
      simpa using hh
  | k :: pre, a, L, hp, hf, hr, hh => by
    obtain ⟨hna, ok, hok, hap⟩ := hp k (by simp)
    obtain ⟨h1, h2, h3⟩ := Oper.apart_spec hap
    obtain ⟨f1, f2⟩ := keep_put (oi := ok) (ok := oi) (ops := ops) (fun cs b => hsel k ok cs b hok) h1 a v
    have ih : ∀ a L, flA am L i w → flRes P ops cl sp i oi a w v Lx → wpL P ops am cl sp w0 Q (pre ++ i :: post) a L → wpL P ops am cl sp w0 Q (pre ++ post) (a.put oi.dst v) (L ++ Lx) := fun a L hf hr hh => fl_next hi hsel hg pre a L (fun k hk => hp k (by simp [hk])) hf hr hh
    have res : ∀ u, flRes P ops cl sp i oi (a.put ok.dst u) w v Lx := by
      intro u
      obtain ⟨e1, e2⟩ := keep_put (ok := ok) (fun cs b => hsel i oi cs b hi) h3 a u
      unfold flRes at hr ⊢
      rw [e1, e2]; exact hr
    rw [List.cons_append] at hh ⊢
    unfold wpL at hh ⊢
    rw [hok] at hh ⊢
    simp only at hh ⊢
    rw [f2]
    split
    · rename_i hw
      rw [if_pos hw] at hh
      split
      · rename_i hc
        rw [if_pos hc] at hh
        obtain ⟨u, k1, k2⟩ := hh
        refine ⟨u, fun w hg hf => ?_, ?_⟩
        · rw [f1]; exact k1 w hg (flA_mono (fun p hp => List.mem_append.2 (.inl hp)) hf)
        · rw [Act.put_comm a v u h2]; exact ih _ _ hf (res u) k2
      · rename_i hc
        rw [if_neg hc] at hh
        refine ⟨fun w hg hf => vwp_same f1 (hh.1 w hg (flA_mono (fun p hp => List.mem_append.2 (.inl hp)) hf)), fun x => ?_⟩
        rw [Act.put_comm a v _ h2]
        refine wpL_mono _ _ _ _ (fun p hp => ?_) (ih _ _ ?_ (res _) (hh.2 x))
        · simp only [List.mem_append, List.mem_singleton] at hp ⊢
          rcases hp with (hp | hp) | hp
          · exact .inl (.inl hp)
          · exact .inr hp
          · exact .inl (.inr hp)
        · intro p hp hc
          rcases List.mem_append.1 hp with hp | hp
          · exact hf p hp hc
          · simp only [List.mem_singleton] at hp
            subst hp
            rw [hna] at hc; cases hc
    · rename_i hw
      rw [if_neg hw] at hh
      rw [Act.put_comm a v _ h2]
      exact ih _ _ hf (res _) hh

def unl (ops : Array Oper) (listed : Array Bool) : List Nat := (List.range ops.size).filter fun i => !listed.getD i true
theorem unl_split {listed : Array Bool} {i : Nat} (hi : i ∈ unl ops listed) : ∃ pre post, unl ops listed = pre ++ i :: post ∧ (∀ k ∈ pre, k < i ∧ listed.getD k true = false) ∧ unl ops (listed.setIfInBounds i true) = pre ++ post := by
  obtain ⟨pre, post, e⟩ := List.append_of_mem hi
  have hs : (unl ops listed).Pairwise (· < ·) := List.Pairwise.filter _ List.pairwise_lt_range
  have hmem : ∀ k, k ∈ unl ops listed → listed.getD k true = false := fun k hk => by have := (List.mem_filter.1 hk).2; simpa using this
  rw [e] at hs
  have hlt : ∀ k ∈ pre, k < i := fun k hk => (List.pairwise_append.1 hs).2.2 k hk i (by simp)
  have hgt : ∀ k ∈ post, i < k := fun k hk => (List.pairwise_cons.1 (List.pairwise_append.1 hs).2.1).1 k hk
  refine ⟨pre, post, e, fun k hk => ⟨hlt k hk, hmem k (by rw [e]; simp [hk])⟩, ?_⟩
  have h1 : unl ops (listed.setIfInBounds i true) = (unl ops listed).filter fun k => k != i := by
    unfold unl
    rw [List.filter_filter]
    refine List.filter_congr fun k hk => ?_
    by_cases hki : i = k
    · subst hki
      have hl : listed.getD i true = false := hmem i hi
      have := getD_set_true (i := i) (j := i) (listed := listed)
      have hh : (listed.setIfInBounds i true).getD i true = true := by
        rcases Nat.lt_or_ge i listed.size with h | h
        · simp [Array.getD_eq_getD_getElem?, h]
        · simp [Array.getD_eq_getD_getElem?, Array.getElem?_eq_none h] at hl
      rw [hh]; simp
    · rw [getD_ne true hki]
      have : (k != i) = true := by simpa using fun e => hki e.symm
      rw [this]; simp
  rw [h1, e, List.filter_append, List.filter_cons]
  have a1 : pre.filter (fun k => k != i) = pre := List.filter_eq_self.2 fun k hk => by have := hlt k hk; simp; omega
  have a2 : post.filter (fun k => k != i) = post := List.filter_eq_self.2 fun k hk => by have := hgt k hk; simp; omega
  rw [a1, a2]; simp

theorem fanc_listed (hB : ∀ i ∈ List.range ops.size, (match ops[i]? with
    | none => false
    | some o => (o.after.all fun e => !Region.binds md e || decide (e.on < i)) && (List.range i).all fun k => if fAnc am i k then (o.after.any fun e => Region.binds md e && (e.on == k || fAnc am e.on k)) else (match ops[k]? with | none => false | some ok => o.apart ops ok)) = true)
    {listed : Array Bool} (hcl : PClosed md ops listed) : ∀ (i : Nat) (o : Oper), ops[i]? = some o → (∀ e ∈ o.after, Region.binds md e = true → listed.getD e.on false = true) → ∀ k, fAnc am i k = true → listed.getD k false = true := by
  intro i
  induction i using Nat.strongRecOn with
  | ind i ih =>
    intro o ho hall k hk
    have hlt : i < ops.size := (Array.getElem?_eq_some_iff.1 ho).1
    have h := hB i (List.mem_range.2 hlt)
    rw [ho] at h
    simp only [Bool.and_eq_true] at h
    have hki : k < i := by unfold fAnc at hk; simp only [Bool.and_eq_true, decide_eq_true_eq] at hk; exact hk.1
    have h2 := List.all_eq_true.1 h.2 k (List.mem_range.2 hki)
    rw [hk] at h2
    simp only [if_true] at h2
    obtain ⟨e, he, h3⟩ := Array.any_eq_true'.1 h2
    simp only [Bool.and_eq_true, Bool.or_eq_true, beq_iff_eq] at h3
    obtain ⟨hb, h3⟩ := h3
    have hl := hall e he hb
    rcases h3 with h3 | h3
    · rw [← h3]; exact hl
    · have h4 := Array.all_eq_true_iff_forall_mem.1 h.1 e he
      rw [hb] at h4
      have h5 : e.on < i := by simpa using h4
      have h6 : e.on < ops.size := by omega
      exact ih e.on h5 ops[e.on] (by simp [h6]) (fun e' he' hb' => hcl e.on ops[e.on] (by simp [h6]) hl e' he' hb') k h3
theorem wpAny_of_L (hB : flowB md ops am = true) : ∀ (f : Nat) (listed : Array Bool) (a : Act) (w : World) (L : List (Nat × (World → Prop))), (unl ops listed).length = f → PClosed md ops listed → Grow w0 w → (∀ p ∈ L, p.2 w ∧ ∀ w1 w2, p.2 w1 → Grow w1 w2 → p.2 w2) →
    wpL P ops am cl sp w0 Q (unl ops listed) a L → wpAny P md ops Q f listed a w := by
  simp only [flowB, Bool.and_eq_true, List.all_eq_true] at hB
  obtain ⟨hns, hB⟩ := hB
  have hsel := Region.noSelect_spec hns
  intro f
  induction f with
  | zero =>
    intro listed a w L hl hcl hg hf hh
    have hu : unl ops listed = [] := List.eq_nil_of_length_eq_zero hl
    rw [hu] at hh
    refine ⟨List.eq_nil_iff_forall_not_mem.2 fun i hi => ?_, hh w hg fun p hp => (hf p hp).1⟩
    obtain ⟨h1, o, h2, _⟩ := mem_ready.1 hi
    have : i ∈ unl ops listed := List.mem_filter.2 ⟨List.mem_range.2 (Array.getElem?_eq_some_iff.1 h2).1, by simp [h1]⟩
    rw [hu] at this; cases this
  | succ f ih =>
    intro listed a w L hl hcl hg hf hh
    refine ⟨fun hr => ?_, fun i hi => ?_⟩
    · -- the first unlisted is ready
      obtain ⟨i, us, hu⟩ : ∃ i us, unl ops listed = i :: us := by
        cases e : unl ops listed with
        | nil => rw [e] at hl; cases hl
        | cons i us => exact ⟨i, us, rfl⟩
      have him : i ∈ unl ops listed := by rw [hu]; simp
      have hs : (unl ops listed).Pairwise (· < ·) := List.Pairwise.filter _ List.pairwise_lt_range
      obtain ⟨him1, him2⟩ := List.mem_filter.1 him
      have hlt : i < ops.size := List.mem_range.1 him1
      have hrd : i ∈ Region.ready md ops listed := by
        refine mem_ready.2 ⟨by simpa using him2, ops[i], by simp [hlt], fun e he hb => ?_⟩
        have h1 := hB i (List.mem_range.2 hlt)
        rw [show ops[i]? = some ops[i] by simp [hlt]] at h1
        simp only [Bool.and_eq_true] at h1
        have h2 := Array.all_eq_true_iff_forall_mem.1 h1.1 e he
        rw [hb] at h2
        have h3 : e.on < i := by simpa using h2
        cases hv : listed.getD e.on true with
        | true =>
          rcases Nat.lt_or_ge e.on listed.size with h | h
          · simp [Array.getD_eq_getD_getElem?, h] at hv ⊢; exact hv
          · have : listed.getD i true = true := by simp [Array.getD_eq_getD_getElem?, Array.getElem?_eq_none (show listed.size ≤ i by omega)]
            rw [this] at him2; simp at him2
        | false =>
          have hm : e.on ∈ unl ops listed := List.mem_filter.2 ⟨List.mem_range.2 (by omega), by simp [hv]⟩
          rw [hu] at hm hs
          rcases List.mem_cons.1 hm with e1 | e1
          · omega
          · have := (List.pairwise_cons.1 hs).1 _ e1; omega
      rw [hr] at hrd; cases hrd
    · obtain ⟨hun, o, ho, hall⟩ := mem_ready.1 hi
      have hlt : i < ops.size := (Array.getElem?_eq_some_iff.1 ho).1
      obtain ⟨pre, post, e, hpre, hnext⟩ := unl_split (ops := ops) (listed := listed) (i := i) (List.mem_filter.2 ⟨List.mem_range.2 hlt, by simp [hun]⟩)
      have hap : ∀ k ∈ pre, fAnc am i k = false ∧ ∃ ok, ops[k]? = some ok ∧ o.apart ops ok = true := by
        intro k hk
        obtain ⟨h1, h2⟩ := hpre k hk
        have hno : fAnc am i k = false := by
          cases hc : fAnc am i k with
          | false => rfl
          | true => have := fanc_listed hB hcl i o ho hall k hc; rw [getD_tf h2] at this; cases this
        refine ⟨hno, ?_⟩
        have h3 := hB i (List.mem_range.2 hlt)
        rw [ho] at h3
        simp only [Bool.and_eq_true] at h3
        have h4 := List.all_eq_true.1 h3.2 k (List.mem_range.2 h1)
        rw [hno] at h4
        simp only [Bool.false_eq_true, if_false] at h4
        cases hk : ops[k]? with
        | none => rw [hk] at h4; cases h4
        | some ok => rw [hk] at h4; exact ⟨ok, rfl, h4⟩
      have hfa : flA am L i w := fun p hp _ => (hf p hp).1
      rw [e] at hh
      have hdo := fl_do ho hsel hg pre a L hap hfa hh
      have hlen : (unl ops (listed.setIfInBounds i true)).length = f := by
        rw [hnext]; rw [e] at hl; simp at hl ⊢; omega
      have go : ∀ (v : Value) (Lx : List (Nat × (World → Prop))) (w' : World), flRes P ops cl sp i o a w v Lx → Grow w w' → (∀ p ∈ Lx, p.2 w' ∧ ∀ w1 w2, p.2 w1 → Grow w1 w2 → p.2 w2) → wpAny P md ops Q f (listed.setIfInBounds i true) (a.put o.dst v) w' := by
        intro v Lx w' hr hgw hfx
        refine ih _ _ _ (L ++ Lx) hlen (closed_set hcl hi) (Grow.trans _ _ _ hg hgw) (fun p hp => ?_) ?_
        · rcases List.mem_append.1 hp with hp | hp
          · exact ⟨(hf p hp).2 _ _ (hf p hp).1 hgw, (hf p hp).2⟩
          · exact hfx p hp
        · rw [hnext]; exact fl_next ho hsel hg pre a L hap hfa hr hh
      unfold wpOp
      rw [ho]
      simp only
      unfold flDo at hdo
      rw [ho] at hdo
      simp only at hdo
      split
      · rename_i hw
        left
        have hdo := hdo hw
        split at hdo
        · rename_i hc
          obtain ⟨v, hv⟩ := hdo
          unfold Oper.wp
          rw [hv]
          exact go v [] w (by unfold flRes; rw [if_pos hw, if_pos hc]; exact ⟨hv, rfl⟩) (Grow.refl w) (fun p hp => by cases hp)
        · rename_i hc
          refine wp_of_vwp hdo fun v w' hv => ?_
          obtain ⟨hgw, x, rfl, hx⟩ := hv
          refine go _ [(i, (sp i).ok x)] w' (by unfold flRes; rw [if_pos hw, if_neg hc]; exact ⟨x, rfl, rfl⟩) hgw (fun p hp => ?_)
          simp only [List.mem_singleton] at hp
          subst hp
          exact ⟨hx, fun w1 w2 h k => (sp i).st x w1 w2 h k⟩
      · rename_i hw
        exact go undef [] w (by unfold flRes; rw [if_neg hw]; exact ⟨rfl, rfl⟩) (Grow.refl w) (fun p hp => by cases hp)
theorem all_un (n : Nat) : ∀ i ∈ List.range n, (!(Array.replicate n false).getD i true) = true := by
  intro i hi
  have : i < n := List.mem_range.1 hi
  simp [Array.getD_eq_getD_getElem?, this]
/-- The law. -/
theorem wp_flow {id : Nat} {a : Act} {w : World} {l : List Oper} (am cl : List Nat) (sp : Nat → Sp) (hm : P.follows .mixedOrders = true) (hB : flowB .any l.toArray am = true)
    (h : ∀ w2, Drawn w w2 → wpL P l.toArray am cl sp w2 Q (List.range l.length) a []) : (Code.region id l.toArray true).wp P Q a w := by
  replace h := h w.drew (Drawn.one w)
  refine wp_region_any hm (wpAny_of_L (am := am) (w0 := w.drew) (cl := cl) (sp := sp) hB _ _ _ _ [] ?_ ?_ (Grow.refl _) (fun p hp => by cases hp) ?_)
  · unfold unl
    rw [List.filter_eq_self.2 (all_un l.toArray.size)]
    simp
  · intro j oj _ hj
    rw [Array.getD_eq_getD_getElem?, Array.getElem?_replicate] at hj
    split at hj <;> simp at hj
  · unfold unl
    rw [List.filter_eq_self.2 (all_un l.toArray.size)]
    simpa using h

/-! ### Steps -/
variable {o : Oper} {i : Nat} {us : List Nat} {a : Act} {L : List (Nat × (World → Prop))}
theorem fl_done (h : ∀ w, Grow w0 w → (∀ p ∈ L, p.2 w) → Q .normal a w) : wpL P ops am cl sp w0 Q [] a L := h
theorem fl_calm {v : Value} (hi : ops[i]? = some o) (hc : plCls cl i ≤ 2) (hw : Region.wanted o (yielded ops a.tmps) = true) (h : ∀ w, Grow w0 w → flA am L i w → (execOp a.eval o).run P w = .ok (.value v) w)
    (hk : ∀ K : Act → Prop, (∀ a, wpL P ops am cl sp w0 Q us a L → K a) → K (a.put o.dst v)) : wpL P ops am cl sp w0 Q (i :: us) a L := by
  unfold wpL; rw [hi]; simp only; rw [if_pos hw, if_pos hc]; exact ⟨v, h, hk _ fun _ h => h⟩
theorem fl_skip (hi : ops[i]? = some o) (hw : Region.wanted o (yielded ops a.tmps) = false)
    (hk : ∀ K : Act → Prop, (∀ a, wpL P ops am cl sp w0 Q us a L → K a) → K (a.put o.dst undef)) : wpL P ops am cl sp w0 Q (i :: us) a L := by
  unfold wpL; rw [hi]; simp only; rw [if_neg (by rw [hw]; simp)]; exact hk _ fun _ h => h
theorem fl_act (hi : ops[i]? = some o) (hc : plCls cl i = 3) (hw : Region.wanted o (yielded ops a.tmps) = true)
    (h : ∀ w, Grow w0 w → flA am L i w → vwp P o a w fun v w' => Grow w w' ∧ ∃ x, v = (sp i).val x ∧ (sp i).ok x w')
    (hk : ∀ x, ∀ K : Act → Prop, (∀ a, wpL P ops am cl sp w0 Q us a (L ++ [(i, (sp i).ok x)]) → K a) → K (a.put o.dst ((sp i).val x))) : wpL P ops am cl sp w0 Q (i :: us) a L := by
  unfold wpL; rw [hi]; simp only; rw [if_pos hw, if_neg (by omega)]; exact ⟨h, fun x => hk x _ fun _ h => h⟩
theorem fl_call {f : FuncId} {args : Array Value} (hi : ops[i]? = some o) (hc : plCls cl i = 3) (hw : Region.wanted o (yielded ops a.tmps) = true) (hr : ∀ w, (execOp a.eval o).run P w = .ok (.enter f args) w)
    (h : ∀ w, Grow w0 w → flA am L i w → Calls P f args w fun e w' => ∃ x, e = .returned ((sp i).val x) ∧ (sp i).ok x w' ∧ Grow w w')
    (hk : ∀ x, ∀ K : Act → Prop, (∀ a, wpL P ops am cl sp w0 Q us a (L ++ [(i, (sp i).ok x)]) → K a) → K (a.put o.dst ((sp i).val x))) : wpL P ops am cl sp w0 Q (i :: us) a L := by
  refine fl_act hi hc hw (fun w hg hf => ?_) hk
  unfold vwp
  rw [hr w]
  exact (h w hg hf).mono fun e w' ⟨x, h1, h2, h3⟩ => ⟨_, h1, h3, x, rfl, h2⟩
/-- A row laid anew. -/
theorem fl_new {n : Nat} {cs : Array Value} {T : TypeId} (hi : ops[i]? = some o) (hc : plCls cl i = 3) (hw : Region.wanted o (yielded ops a.tmps) = true)
    (hr : ∀ w, (execOp a.eval o).run P w = .ok (.value (.slice (some ⟨w.heap.size, 0, none⟩) n n)) (w.alloc (.cells cs T)))
    (h : ∀ w w' g, flA am L i w → Grow w w' → Grow w0 w' → Blk w' g T cs.toList → ∃ x, Value.slice (some ⟨g, 0, none⟩) n n = (sp i).val x ∧ (sp i).ok x w')
    (hk : ∀ x, ∀ K : Act → Prop, (∀ a, wpL P ops am cl sp w0 Q us a (L ++ [(i, (sp i).ok x)]) → K a) → K (a.put o.dst ((sp i).val x))) : wpL P ops am cl sp w0 Q (i :: us) a L := by
  refine fl_act hi hc hw (fun w hg hf => ?_) hk
  unfold vwp
  rw [hr w]
  have hn := alloc_new w cs T
  exact ⟨hn.2.1, h w _ _ hf hn.2.1 (Grow.trans _ _ _ hg hn.2.1) hn.1⟩
/-! ### Values known ahead; slices -/
def spS (n : Nat) (F : Option Addr → Nat → World → Prop) (st : ∀ A c w w', F A c w → Grow w w' → F A c w') : Sp := ⟨Option Addr × Nat, (none, 0), fun x => .slice x.1 n x.2, fun x w => F x.1 x.2 w, fun x => st x.1 x.2⟩
theorem fl_callv {v : Value} {f : FuncId} {args : Array Value} (hi : ops[i]? = some o) (hc : plCls cl i = 3) (hS : sp i = spV v) (hw : Region.wanted o (yielded ops a.tmps) = true) (hr : ∀ w, (execOp a.eval o).run P w = .ok (.enter f args) w)
    (h : ∀ w, Grow w0 w → flA am L i w → Calls P f args w fun e w' => e = .returned v ∧ Below w.heap.size w w')
    (hk : ∀ K : Act → Prop, (∀ a, wpL P ops am cl sp w0 Q us a (L ++ [(i, fun _ => True)]) → K a) → K (a.put o.dst v)) : wpL P ops am cl sp w0 Q (i :: us) a L := by
  refine fl_call hi hc hw hr ?_ ?_
  · rw [hS]; intro w hg hf; exact (h w hg hf).mono fun e w' ⟨h1, h2⟩ => ⟨(), h1, trivial, h2⟩
  · rw [hS]; intro x K hK; exact hk K hK
theorem fl_calls {n : Nat} {F : Option Addr → Nat → World → Prop} {st : ∀ A c w w', F A c w → Grow w w' → F A c w'} {f : FuncId} {args : Array Value} (hi : ops[i]? = some o) (hc : plCls cl i = 3) (hS : sp i = spS n F st) (hw : Region.wanted o (yielded ops a.tmps) = true) (hr : ∀ w, (execOp a.eval o).run P w = .ok (.enter f args) w)
    (h : ∀ w, Grow w0 w → flA am L i w → Calls P f args w fun e w' => ∃ A c, e = .returned (.slice A n c) ∧ F A c w' ∧ Below w.heap.size w w')
    (hk : ∀ A c, ∀ K : Act → Prop, (∀ a, wpL P ops am cl sp w0 Q us a (L ++ [(i, F A c)]) → K a) → K (a.put o.dst (.slice A n c))) : wpL P ops am cl sp w0 Q (i :: us) a L := by
  refine fl_call hi hc hw hr ?_ ?_
  · rw [hS]; intro w hg hf; exact (h w hg hf).mono fun e w' ⟨A, c, h1, h2, h3⟩ => ⟨(A, c), h1, h2, h3⟩
  · rw [hS]; intro x K hK; exact hk x.1 x.2 K hK
theorem fl_news {n : Nat} {F : Option Addr → Nat → World → Prop} {st : ∀ A c w w', F A c w → Grow w w' → F A c w'} {cs : Array Value} {T : TypeId} (hi : ops[i]? = some o) (hc : plCls cl i = 3) (hS : sp i = spS n F st) (hw : Region.wanted o (yielded ops a.tmps) = true)
    (hr : ∀ w, (execOp a.eval o).run P w = .ok (.value (.slice (some ⟨w.heap.size, 0, none⟩) n n)) (w.alloc (.cells cs T)))
    (h : ∀ w w' g, flA am L i w → Grow w w' → Grow w0 w' → Blk w' g T cs.toList → F (some ⟨g, 0, none⟩) n w')
    (hk : ∀ A c, ∀ K : Act → Prop, (∀ a, wpL P ops am cl sp w0 Q us a (L ++ [(i, F A c)]) → K a) → K (a.put o.dst (.slice A n c))) : wpL P ops am cl sp w0 Q (i :: us) a L := by
  refine fl_new hi hc hw hr ?_ ?_
  · rw [hS]; intro w w' g h1 h2 h3 h4; exact ⟨(some ⟨g, 0, none⟩, n), rfl, h w w' g h1 h2 h3 h4⟩
  · rw [hS]; intro x K hK; exact hk x.1 x.2 K hK
/-- A cell read; a whole block read. -/
theorem fl_load {T : TypeId} {x : Operand} {p : Addr} {v : Value} (hi : ops[i]? = some o) (hc : plCls cl i ≤ 2) (hw : Region.wanted o (yielded ops a.tmps) = true) (ho : o.op = .load T x) (hx : a.eval x = .pointer (some p))
    (hT : (match P.underlying T with | some (.struct _) | some (.array _ _) => false | some _ => true | none => false) = true) (hv : w0.cell? p = some v)
    (hk : ∀ K : Act → Prop, (∀ a, wpL P ops am cl sp w0 Q us a L → K a) → K (a.put o.dst v)) : wpL P ops am cl sp w0 Q (i :: us) a L := by
  refine fl_calm hi hc hw (fun w' hf _ => ?_) hk
  have hv' : w'.cell? p = some v := by
    have := World.block_lt_of_cell? w0 p hv
    rw [hf.cell this]; exact hv
  unfold execOp
  simp only [ho, hx, Instr.loadAt, Instr.sureAddr, Sem.run_bind, Sem.run_pure, Result.andThen_ok]
  cases hd : P.underlying T with
  | none => rw [hd] at hT; cases hT
  | some d =>
    rw [hd] at hT
    have hagg : (isAgg T).run P w' = .ok false w' := by
      unfold isAgg
      rw [Sem.run_bind, run_underlying hd w']
      cases d <;> simp_all
    simp [loadVar, hagg, load, Sem.run, hv']
theorem fl_loadb {T : TypeId} {x : Operand} {n : Nat} {g : Nat} {T' : TypeId} {cs : List Value} (hi : ops[i]? = some o) (hc : plCls cl i ≤ 2) (hw : Region.wanted o (yielded ops a.tmps) = true) (ho : o.op = .load T x) (hT : RowT P T n)
    (hb : Blk w0 g T' cs) (hx : a.eval x = .pointer (some ⟨g, 0, none⟩)) (hn : cs.length = n)
    (hk : ∀ K : Act → Prop, (∀ a, wpL P ops am cl sp w0 Q us a L → K a) → K (a.put o.dst (.agg cs.toArray))) : wpL P ops am cl sp w0 Q (i :: us) a L := by
  refine fl_calm hi hc hw (fun w' hf _ => ?_) hk
  obtain ⟨d, hu, hd, hi⟩ := hT
  have hrun := run_loadVar_row (P := P) w' g T' T cs.toArray (0, 0) d (hb.call hf) hu (by revert hd; cases d <;> simp) (by rw [hi]; simp [hn])
  unfold execOp
  simp only [ho, hx, Instr.loadAt, Instr.sureAddr, Sem.run_bind, Sem.run_pure, Result.andThen_ok, hrun]
theorem fl_loadm {T : TypeId} {x : Operand} {n b off : Nat} {cs : List Value} (hi : ops[i]? = some o) (hc : plCls cl i ≤ 2) (hw : Region.wanted o (yielded ops a.tmps) = true) (ho : o.op = .load T x) (hT : RowT P T n)
    (hv : ∀ j u, cs[j]? = some u → w0.cell? ⟨b, off + j, none⟩ = some u) (hx : a.eval x = .pointer (some ⟨b, off, none⟩)) (hn : cs.length = n)
    (hk : ∀ K : Act → Prop, (∀ a, wpL P ops am cl sp w0 Q us a L → K a) → K (a.put o.dst (.agg cs.toArray))) : wpL P ops am cl sp w0 Q (i :: us) a L := by
  refine fl_calm hi hc hw (fun w' hf _ => ?_) hk
  obtain ⟨d, hu, hd, hi⟩ := hT
  have hrun := run_loadVar_mid (P := P) w' b off T cs d (fun j u hj => by
    have h1 := hv j u hj
    rw [hf.cell (World.block_lt_of_cell? w0 _ h1)]; exact h1) hu (by cases d <;> simp_all) (by rw [hi, hn])
  unfold execOp
  simp only [ho, hx, Instr.loadAt, Instr.sureAddr, Sem.run_bind, Sem.run_pure, Result.andThen_ok, hrun]
end
attribute [irreducible] wpL
end Go.Proofs.Ytofhohofaedokaa

/- What acts in a drawn region may yield: lists of bytes; lists of these. -/
namespace Go.Proofs.Ytofhohofaedokaa
open Go.RowKit Go.Shelf
/-- Bytes. -/
def spB (n : Nat) (bs : List UInt8) : Sp := spS n (fun A c w => Sl w w.heap.size 1 A n (bs.map B) ∧ n ≤ c) (fun _ _ _ _ h k => ⟨h.1.grow k, h.2⟩)
/-- A list of lists of bytes. -/
def spP (n : Nat) (ls : List (List UInt8)) : Sp := spS n (fun A _ w => ∃ ps, Parts w w.heap.size A n ps ∧ ps.map Prod.snd = ls) (fun _ _ _ _ ⟨ps, h1, h2⟩ k => ⟨ps, h1.grow k, h2⟩)
theorem parts1 {w : World} {g : Nat} {t : TypeId} {A1 : Option Addr} {n1 c1 : Nat} {b1 : List UInt8} (hb : Blk w g t [.slice A1 n1 c1]) (h1 : Sl w w.heap.size 1 A1 n1 (b1.map B)) (k1 : n1 ≤ c1) :
    ∃ ps, Parts w w.heap.size (some ⟨g, 0, none⟩) 1 ps ∧ ps.map Prod.snd = [b1] :=
  ⟨[(.slice A1 n1 c1, b1)], parts_blk hb rfl (by intro p hp; simp only [List.mem_cons, List.not_mem_nil, or_false] at hp; subst hp; exact part_mk h1 k1), rfl⟩
theorem parts2 {w : World} {g : Nat} {t : TypeId} {A1 A2 : Option Addr} {n1 c1 n2 c2 : Nat} {b1 b2 : List UInt8} (hb : Blk w g t [.slice A1 n1 c1, .slice A2 n2 c2]) (h1 : Sl w w.heap.size 1 A1 n1 (b1.map B)) (k1 : n1 ≤ c1) (h2 : Sl w w.heap.size 1 A2 n2 (b2.map B)) (k2 : n2 ≤ c2) :
    ∃ ps, Parts w w.heap.size (some ⟨g, 0, none⟩) 2 ps ∧ ps.map Prod.snd = [b1, b2] :=
  ⟨[(.slice A1 n1 c1, b1), (.slice A2 n2 c2, b2)], parts_blk hb rfl (by intro p hp; simp only [List.mem_cons, List.not_mem_nil, or_false] at hp; rcases hp with rfl | rfl; exact part_mk h1 k1; exact part_mk h2 k2), rfl⟩
theorem cat_of (ps : List (Value × List UInt8)) : cat ps = (ps.map Prod.snd).flatten := by unfold cat; rfl
end Go.Proofs.Ytofhohofaedokaa

/- Under a mark, over a list of lists that is known by its bytes; facts ready for the laws. -/
namespace Go.Proofs.Ytofhohofaedokaa
open Go.RowKit Go.Shelf
theorem dig_of (l : List UInt8) : ∃ v, Dig v (sha l) := ⟨_, Dig.sha l⟩
theorem Dig.eql_b {xs ys : List Value} {a b : List UInt8} {d : Bool} (h : Dig xs a) (k : Dig ys b) (hd : (a == b) = d) (w : World) : (binOp .eql 28 (.agg xs.toArray) (.agg ys.toArray)).run Try.prog w = .ok (.bool d) w := by rw [h.eql k, hd]
theorem Dig.neq_b {xs ys : List Value} {a b : List UInt8} {d : Bool} (h : Dig xs a) (k : Dig ys b) (hd : (a == b) = d) (w : World) : (binOp .neq 28 (.agg xs.toArray) (.agg ys.toArray)).run Try.prog w = .ok (.bool !d) w := by rw [h.neq k, bne, hd]
theorem beq_swap {a b : List UInt8} {d : Bool} (h : (a == b) = d) : (b == a) = d := by rw [← h]; exact BEq.comm
/-- 'append(out, src...)', under a guard that says yes. -/
theorem wpl_appsw {P : Program} {w : World} {ops : Array Oper} {rest : List Oper} {o : Oper} {a : Act} {Q : Exit → Act → World → Prop} (hw : Region.wanted o (yielded ops a.tmps) = true) {s x : Operand} {t : TypeId}
    (ho : o.op = .call { callee := .builtin .append, args := #[s, x], argTypes := #[t, t] })
    {base : Nat} {e : TypeId} {sz bytes : Nat} (HE : ElemT P t e sz bytes)
    {A : Option Addr} {n c : Nat} {xs : List Value} (hown : w.ownsRow base e sz (.slice A n c) n xs) (hs : a.eval s = .slice A n c)
    {B : Nat} {A2 : Option Addr} {m c2 : Nat} {news : List Value} (hr : Sl w B sz A2 m news) (hx : a.eval x = .slice A2 m c2) (h1 : ∀ u ∈ news, u.oneCell' = true)
    (h63 : (n + m) * bytes ≤ 140737488355328) (hmx : n + m ≤ 140737488355328) (hbase : base ≤ w.heap.size)
    (h : ∀ A' c' w', w'.ownsRow base e sz (.slice A' (n + m) c') (n + m) (xs ++ news) → w.grownBy w' (A.map Addr.block) → (A'.map Addr.block = A.map Addr.block ∨ A'.map Addr.block = some w.heap.size) → wpList P ops Q rest (a.put o.dst (.slice A' (n + m) c')) w') : wpList P ops Q (o :: rest) a w := by
  obtain ⟨i, z, hi, hz, hsz, hby, hzs, h0⟩ := HE.hi
  exact wpl_wanted hw fun _ hK => wp_app w s x t ho base e i z sz bytes HE.ht hi hz hsz hby hzs h0 A n c xs hs hown B A2 m c2 news hx hr h1 (by simp only [maxLen]; omega) h63 hbase fun A' c' w' h2 h3 h4 => hK _ _ (h A' c' w' h2 h3 h4)
end Go.Proofs.Ytofhohofaedokaa

/- What seisinref03.Sum keeps from round to round; its loops' bodies. -/
namespace Go.Proofs.Ytofhohofaedokaa
open Go.RowKit Go.Shelf
set_option linter.unusedVariables false

attribute [local go_sem ↓ high] add_w
attribute [local go_sem high] xor_w and_w or_w not_w shr_w shl_w wrap_b8

theorem all_words (l : List UInt32) : ∀ v ∈ l.map W, v.oneCell' = true := fun v hv => by obtain ⟨x, _, rfl⟩ := List.mem_map.1 hv; rfl

theorem not_sub (x : UInt32) : Op.intArith .sub .u32 4294967295 (w32 x) = pure (.int .u32 (w32 (~~~x))) := by
  have : IntKind.u32.wrap (4294967295 - w32 x) = w32 (~~~x) := by
    have h1 : (~~~x).toNat = 4294967295 - x.toNat := by rw [UInt32.toNat_not]; rfl
    have := x.toNat_lt
    rw [IntKind.wrap_u32]
    unfold w32
    rw [h1]
    omega
  show pure (Value.int .u32 (IntKind.u32.wrap (4294967295 - w32 x))) = _
  rw [this]
attribute [local go_sem ↓ high] not_sub
theorem stN_zero (b : List UInt8) (h : St) : stN b h 0 = h := by rw [stN]
theorem stN_succ (b : List UInt8) (h : St) (k : Nat) : stN b h (k + 1) = roundF (roundKs[k]?.getD 0) (sw b k) (stN b h k) := by rw [stN]
theorem grown_alloc (w : World) (o : Obj) : w.grownBy (w.alloc o) none := ⟨rfl, rfl, rfl, by simp, fun k hk _ => Below.heap_alloc w o k hk⟩

theorem stB_zero (m : List UInt8) : stB m 0 = firstSt := by rw [← stL_range]; show stL m [] = _; rw [stL]; rfl
theorem stB_succ (m : List UInt8) (k : Nat) : stB m (k + 1) = compress roundKs (stB m k) (chunkAt m k) := by
  rw [← stL_range, List.range_succ, stL_snoc, stL_range]
theorem range_snoc {α : Type} (f : Nat → α) (k : Nat) : (List.range (k + 1)).map f = (List.range k).map f ++ [f k] := by rw [List.range_succ]; simp

/-- What a round of the sum leaves as it is; hl: the words of h. -/
structure KeepR (g s1 s2 gm gh nb cm ch : Nat) (m : List UInt8) (hl : List Value) (w V : World) : Prop where
  msg : V.ownsRow (g + 1) 5 1 (.slice (some ⟨gm, 0, none⟩) (64 * nb) cm) (64 * nb) (m.map B)
  hs : V.ownsRow s1 129 1 (.slice (some ⟨gh, 0, none⟩) 8 ch) 8 hl
  res : Blk V g 28 (List.replicate 32 (B 0))
  low : Below g w V
  sz : s2 ≤ V.heap.size
  lm : gm < s2
  lh : gh < s2
  lg : g < s2
  mh : gm < gh
  g0 : g < gh
section
variable {g s1 s2 s3 gm gh nb cm ch : Nat} {m : List UInt8} {hl : List Value} {w V V' : World}
theorem KeepR.grown {row : Option Nat} (h : KeepR g s1 s2 gm gh nb cm ch m hl w V) (hg : V.grownBy V' row) (hr : ∀ k, row = some k → s2 ≤ k) : KeepR g s1 s2 gm gh nb cm ch m hl w V' :=
  ⟨own_kept h.msg hg (fun k hk e => by cases hk; have := hr _ e.symm; have := h.lm; omega), own_kept h.hs hg (fun k hk e => by cases hk; have := hr _ e.symm; have := h.lh; omega),
   h.res.grown hg (fun e => by have := hr _ e.symm; have := h.lg; omega), h.low.grown hg (Nat.le_trans (Nat.le_of_lt h.lg) h.sz) (fun k hk => by have := hr k hk; have := h.lg; omega), Nat.le_trans h.sz hg.size, h.lm, h.lh, h.lg, h.mh, h.g0⟩
theorem KeepR.drawn (h : KeepR g s1 s2 gm gh nb cm ch m hl w V) (hd : Drawn V V') : KeepR g s1 s2 gm gh nb cm ch m hl w V' :=
  ⟨hd.own h.msg, hd.own h.hs, hd.blk h.res, hd.below h.low, by rw [hd.size]; exact h.sz, h.lm, h.lh, h.lg, h.mh, h.g0⟩
theorem KeepR.more (h : KeepR g s1 s2 gm gh nb cm ch m hl w V) (h1 : s2 ≤ s3) (h2 : s3 ≤ V.heap.size) : KeepR g s1 s3 gm gh nb cm ch m hl w V :=
  ⟨h.msg, h.hs, h.res, h.low, h2, Nat.lt_of_lt_of_le h.lm h1, Nat.lt_of_lt_of_le h.lh h1, Nat.lt_of_lt_of_le h.lg h1, h.mh, h.g0⟩
theorem KeepR.less (h : KeepR g s1 s3 gm gh nb cm ch m hl w V) (h1 : s2 ≤ s3) (lm : gm < s2) (lh : gh < s2) (lg : g < s2) : KeepR g s1 s2 gm gh nb cm ch m hl w V :=
  ⟨h.msg, h.hs, h.res, h.low, Nat.le_trans h1 h.sz, lm, lh, lg, h.mh, h.g0⟩
theorem KeepR.store (h : KeepR g s1 s2 gm gh nb cm ch m hl w V) (k : Nat) (v : Value) : KeepR g s1 s2 gm gh nb cm ch m (hl.set k v) w (V.setCell ⟨gh, k, none⟩ v) :=
  have hg := grown_set V gh k v
  ⟨own_kept h.msg hg (fun j hj e => by cases hj; have := h.mh; cases e; omega), (h.hs.stored k v).1, h.res.grown hg (fun e => by have := h.g0; cases e; omega), h.low.grown hg (Nat.le_trans (Nat.le_of_lt h.lg) h.sz) (fun j hj => by cases hj; exact Nat.le_of_lt h.g0),
   Nat.le_trans h.sz hg.size, h.lm, h.lh, h.lg, h.mh, h.g0⟩
end

theorem range_getD {α : Type} (f : UInt8 → α) (l : List UInt8) (n : Nat) (h : l.length = n) : (List.range n).map (fun i => f (l[i]?.getD 0)) = l.map f := by
  apply List.ext_getElem (by simp [h])
  intro i h1 h2
  have hi : i < l.length := by simpa using h2
  simp [hi]
/-- h added to, as far as k. -/
def upTo8 (s t : St) (k : Nat) (xs : List Value) : Prop := xs.length = 8 ∧ (∀ i, i < k → xs[i]? = some (W ((s.add t).at_ i))) ∧ ∀ i, k ≤ i → i < 8 → xs[i]? = some (W (s.at_ i))
theorem upTo8_zero (s t : St) : upTo8 s t 0 (s.toList.map W) := ⟨rfl, fun i hi => absurd hi (by omega), fun i _ hi => s.get_at i hi⟩
theorem upTo8_all {s t : St} {xs : List Value} (h : upTo8 s t 8 xs) : xs = (s.add t).toList.map W := by
  apply List.ext_getElem?
  intro i
  by_cases hi : i < 8
  · rw [h.2.1 i hi, (s.add t).get_at i hi]
  · rw [List.getElem?_eq_none (by rw [h.1]; omega), List.getElem?_eq_none (by rw [List.length_map, St.length]; omega)]
theorem upTo8_set {s t : St} {k : Nat} {xs : List Value} (h : upTo8 s t k xs) (hk : k < 8) : upTo8 s t (k + 1) (xs.set k (W (s.at_ k + t.at_ k))) := by
  refine ⟨by rw [List.length_set]; exact h.1, fun i hi => ?_, fun i h1 h2 => ?_⟩
  · rw [List.getElem?_set]
    by_cases e : k = i
    · subst e
      rw [if_pos rfl, if_pos (by rw [h.1]; exact hk), St.add_at s t k hk]
    · rw [if_neg e]; exact h.2.1 i (by omega)
  · rw [List.getElem?_set, if_neg (by omega)]
    exact h.2.2 i (by omega) h2
theorem outB_get (s : St) (i : Nat) (hi : i < 32) : (outB s)[i]? = some (beByte (s.at_ (i / 4)).toNat 4 (i % 4)) := by
  have h1 := outB_take s (i / 4) (by omega)
  have hl1 : ((outB s).take (4 * (i / 4))).length = 4 * (i / 4) := by rw [List.length_take, outB_length]; omega
  have h2 : (outB s)[i]? = ((outB s).take (4 * (i / 4 + 1)))[i]? := by rw [List.getElem?_take_of_lt (by omega)]
  rw [h2, h1, List.getElem?_append_right (by rw [hl1]; omega), hl1, show i - 4 * (i / 4) = i % 4 by omega, beBytes, List.getElem?_map, List.getElem?_range (by omega)]
  rfl
def loopsOf : Code → List Code
  | .loop c => c :: loopsOf c
  | .seq a b => loopsOf a ++ loopsOf b
  | .block _ c => loopsOf c
  | .scope c => loopsOf c
  | .cond _ a b => loopsOf a ++ loopsOf b
  | _ => []
end Go.Proofs.Ytofhohofaedokaa

/- The padding loops of seisinref03.Sum. -/
namespace Go.Proofs.Ytofhohofaedokaa
open Go.RowKit Go.Shelf
set_option linter.unusedVariables false

attribute [local go_sem ↓ high] add_w
attribute [local go_sem high] xor_w and_w or_w not_w shr_w shl_w wrap_b8

end Go.Proofs.Ytofhohofaedokaa

/- The length loop of seisinref03.Sum. -/
namespace Go.Proofs.Ytofhohofaedokaa
open Go.RowKit Go.Shelf
set_option linter.unusedVariables false

attribute [local go_sem ↓ high] add_w
attribute [local go_sem high] xor_w and_w or_w not_w shr_w shl_w wrap_b8
attribute [local go_sem ↓ high] not_sub

end Go.Proofs.Ytofhohofaedokaa

/- The last loop of seisinref03.Sum. -/
namespace Go.Proofs.Ytofhohofaedokaa
open Go.RowKit Go.Shelf
set_option linter.unusedVariables false

attribute [local go_sem ↓ high] add_w
attribute [local go_sem high] xor_w and_w or_w not_w shr_w shl_w wrap_b8
attribute [local go_sem ↓ high] not_sub

end Go.Proofs.Ytofhohofaedokaa

/- The schedule loop of seisinref03.Sum. -/
namespace Go.Proofs.Ytofhohofaedokaa
open Go.RowKit Go.Shelf
set_option linter.unusedVariables false

attribute [local go_sem ↓ high] add_w
attribute [local go_sem high] xor_w and_w or_w not_w shr_w shl_w wrap_b8
attribute [local go_sem ↓ high] not_sub

end Go.Proofs.Ytofhohofaedokaa

/- The regions of seisinref03.Sum, taken out of the translation. -/
namespace Go.Proofs.Ytofhohofaedokaa
def regsOf : Code → List (Nat × Code)
  | .region i o d => [(i, .region i o d)]
  | .loop c => regsOf c
  | .seq a b => regsOf a ++ regsOf b
  | .block _ c => regsOf c
  | .scope c => regsOf c
  | .cond _ a b => regsOf a ++ regsOf b
  | _ => []
end Go.Proofs.Ytofhohofaedokaa

/- Region 26 of seisinref03.Sum (a round). -/
namespace Go.Proofs.Ytofhohofaedokaa
open Go.RowKit Go.Shelf
set_option linter.unusedVariables false

attribute [local go_sem ↓ high] add_w
attribute [local go_sem high] xor_w and_w or_w not_w shr_w shl_w wrap_b8
attribute [local go_sem ↓ high] not_sub

end Go.Proofs.Ytofhohofaedokaa

/- Region 27 of seisinref03.Sum (a round). -/
namespace Go.Proofs.Ytofhohofaedokaa
open Go.RowKit Go.Shelf
set_option linter.unusedVariables false

attribute [local go_sem ↓ high] add_w
attribute [local go_sem high] xor_w and_w or_w not_w shr_w shl_w wrap_b8
attribute [local go_sem ↓ high] not_sub

end Go.Proofs.Ytofhohofaedokaa

/- Region 28 of seisinref03.Sum (a round). -/
namespace Go.Proofs.Ytofhohofaedokaa
open Go.RowKit Go.Shelf
set_option linter.unusedVariables false

attribute [local go_sem ↓ high] add_w
attribute [local go_sem high] xor_w and_w or_w not_w shr_w shl_w wrap_b8
attribute [local go_sem ↓ high] not_sub

end Go.Proofs.Ytofhohofaedokaa

/- Region 29 of seisinref03.Sum (a round). -/
namespace Go.Proofs.Ytofhohofaedokaa
open Go.RowKit Go.Shelf
set_option linter.unusedVariables false

attribute [local go_sem ↓ high] add_w
attribute [local go_sem high] xor_w and_w or_w not_w shr_w shl_w wrap_b8
attribute [local go_sem ↓ high] not_sub

end Go.Proofs.Ytofhohofaedokaa

/- Region 30 of seisinref03.Sum (a round). -/
namespace Go.Proofs.Ytofhohofaedokaa
open Go.RowKit Go.Shelf
set_option linter.unusedVariables false

attribute [local go_sem ↓ high] add_w
attribute [local go_sem high] xor_w and_w or_w not_w shr_w shl_w wrap_b8
attribute [local go_sem ↓ high] not_sub

end Go.Proofs.Ytofhohofaedokaa

/- Region 31 of seisinref03.Sum (a round). -/
namespace Go.Proofs.Ytofhohofaedokaa
open Go.RowKit Go.Shelf
set_option linter.unusedVariables false

attribute [local go_sem ↓ high] add_w
attribute [local go_sem high] xor_w and_w or_w not_w shr_w shl_w wrap_b8
attribute [local go_sem ↓ high] not_sub

end Go.Proofs.Ytofhohofaedokaa

/- The rounds of seisinref03.Sum. -/
namespace Go.Proofs.Ytofhohofaedokaa
open Go.RowKit Go.Shelf
set_option linter.unusedVariables false

attribute [local go_sem ↓ high] add_w
attribute [local go_sem high] xor_w and_w or_w not_w shr_w shl_w wrap_b8
attribute [local go_sem ↓ high] not_sub

end Go.Proofs.Ytofhohofaedokaa

/- The adding loop of seisinref03.Sum. -/
namespace Go.Proofs.Ytofhohofaedokaa
open Go.RowKit Go.Shelf
set_option linter.unusedVariables false

attribute [local go_sem ↓ high] add_w
attribute [local go_sem high] xor_w and_w or_w not_w shr_w shl_w wrap_b8
attribute [local go_sem ↓ high] not_sub

end Go.Proofs.Ytofhohofaedokaa

/- The loop over the blocks of seisinref03.Sum. -/
namespace Go.Proofs.Ytofhohofaedokaa
open Go.RowKit Go.Shelf
set_option linter.unusedVariables false

attribute [local go_sem ↓ high] add_w
attribute [local go_sem high] xor_w and_w or_w not_w shr_w shl_w wrap_b8
attribute [local go_sem ↓ high] not_sub

end Go.Proofs.Ytofhohofaedokaa

/- Contract of seisinref03.Sum. -/
namespace Go.Proofs.Ytofhohofaedokaa
open Go.RowKit Go.Shelf
set_option linter.unusedVariables false

attribute [local go_sem ↓ high] add_w
attribute [local go_sem high] xor_w and_w or_w not_w shr_w shl_w wrap_b8
attribute [local go_sem ↓ high] not_sub

end Go.Proofs.Ytofhohofaedokaa

/- Contracts of seisinref03.Of, Long; seisinref01.Pick. -/
namespace Go.Proofs.Ytofhohofaedokaa
open Go.RowKit Go.Shelf
set_option linter.unusedVariables false

end Go.Proofs.Ytofhohofaedokaa

/- The contract of seisinref03.Of, ready for the laws. -/
namespace Go.Proofs.Ytofhohofaedokaa
open Go.RowKit Go.Shelf
set_option linter.unusedVariables false
end Go.Proofs.Ytofhohofaedokaa

/- Layer 5: the root, in the program and in the document's answer. -/
namespace Go.Proofs.Ytofhohofaedokaa
open Go.RowKit Go.Shelf
set_option linter.unusedVariables false

def rootB (l : List (List UInt8)) : List UInt8 :=
  match l with
  | [] => noneB
  | [x] => leafB x
  | x :: y :: r => nodeB (rootB ((x :: y :: r).take (halfN (x :: y :: r).length))) (rootB ((x :: y :: r).drop (halfN (x :: y :: r).length)))
termination_by l.length
decreasing_by
  · rw [List.length_take]; have := halfN_lt (n := (x :: y :: r).length) (by simp); omega
  · rw [List.length_drop]; have := halfN_pos (x :: y :: r).length; simp only [List.length_cons] at *; omega
theorem rootB_nil : rootB [] = noneB := by rw [rootB]
theorem rootB_one (x : List UInt8) : rootB [x] = leafB x := by rw [rootB]
theorem rootB_more (l : List (List UInt8)) (h : 2 ≤ l.length) : rootB l = nodeB (rootB (l.take (halfN l.length))) (rootB (l.drop (halfN l.length))) := by
  match l, h with
  | x :: y :: r, _ => rw [rootB]
theorem rootB_len (l : List (List UInt8)) : (rootB l).length = 32 := by
  match l with
  | [] => rw [rootB_nil]; exact noneB_len
  | [x] => rw [rootB_one]; exact leafB_len x
  | x :: y :: r => rw [rootB_more _ (by simp)]; exact nodeB_len _ _
theorem dig_root (l : List (List UInt8)) : ∃ v, Dig v (rootB l) := ⟨(rootB l).map B, rfl, rootB_len l⟩

theorem Parts.to1 {w : World} {Bd n k : Nat} {A : Option Addr} {ps : List (Value × List UInt8)} (h : Parts w Bd A n ps) (hk : k ≤ n) : Parts w Bd A k (ps.take k) :=
  ⟨by rw [List.map_take]; exact h.1.to1 hk, fun p hp => h.2 p (List.mem_of_mem_take hp)⟩
theorem Parts.from1 {w : World} {Bd n k c : Nat} {A : Option Addr} {ps : List (Value × List UInt8)} (h : Parts w Bd A n ps) (hk : k ≤ n) (hc : n ≤ c) : Parts w Bd (if c = k then A else Option.map (fun x => x.add k) A) (n - k) (ps.drop k) :=
  ⟨by rw [List.map_drop]; exact h.1.from1 hk hc, fun p hp => h.2 p (List.mem_of_mem_drop hp)⟩
theorem Parts.none_ (w : World) : Parts w w.heap.size none 0 [] := ⟨Sl.nil, fun p hp => by cases hp⟩
attribute [local irreducible] leafB nodeB noneB

end Go.Proofs.Ytofhohofaedokaa

/- Headers and entries: their forms, digests, and who follows whom (plain). -/
namespace Go.Proofs.Ytofhohofaedokaa
open Go.RowKit
set_option linter.unusedVariables false

def putEB (e : Ent) : List UInt8 := numB e.kind.toNat ++ numB e.shard.toNat ++ e.tx ++ numB e.amount.toNat ++ numB e.why.toNat ++ numB e.epoch.toNat
def putHB (h : Hdr) : List UInt8 := numB h.shard.toNat ++ numB h.height.toNat ++ numB h.epoch.toNat ++ h.prev ++ h.root
def zeroD : List UInt8 := List.replicate 32 0
def hidB (h : Hdr) : List UInt8 := if rightH h = true then sha (underB 11 [putHB h]) else zeroD
theorem hidB_len (h : Hdr) : (hidB h).length = 32 := by unfold hidB; split <;> simp [sha_length, zeroD]
def followsB (a b : Hdr) : Bool := rightH a && rightH b && decide (a.shard = b.shard) && decide (b.height = a.height + 1) && decide (a.epoch ≤ b.epoch) && (b.prev == hidB a)
def leavesB (c : List UInt8) (e : Ent) (i : Int) : List (List UInt8) := if rightE e = true ∧ i ≤ 4611686018427387904 then [c, putEB e, numB i.toNat] else []
def nextH (p : Hdr) (first : Bool) (ls : List (List UInt8)) (s ep : Int) : Hdr := if first = true then ⟨s, 1, ep, zeroD, rootB ls⟩ else ⟨p.shard, p.height + 1, ep, hidB p, rootB ls⟩
def nextOK (p : Hdr) (first : Bool) (ls : List (List UInt8)) (s ep : Int) : Bool := decide (ls.length = 3) && (first || rightH p && decide (p.epoch ≤ ep)) && rightH (nextH p first ls s ep)
def nextB (p : Hdr) (first : Bool) (ls : List (List UInt8)) (s ep : Int) : Hdr := if nextOK p first ls s ep = true then nextH p first ls s ep else noHdr
theorem inB_iff {n lo hi : Int} : inB n lo hi = true ↔ lo ≤ n ∧ n ≤ hi := by unfold inB; simp
theorem rightE_iff {e : Ent} : rightE e = true ↔ (1 ≤ e.kind ∧ e.kind ≤ 3) ∧ (0 ≤ e.shard ∧ e.shard ≤ 63) ∧ e.amount ≤ 4611686018427387904 ∧ (0 ≤ e.why ∧ e.why ≤ 63) ∧ (0 ≤ e.epoch ∧ e.epoch ≤ 1099511627776) := by
  unfold rightE; simp only [Bool.and_eq_true, inB_iff, decide_eq_true_eq]; constructor <;> (intro h; omega)
theorem rightH_iff {h : Hdr} : rightH h = true ↔ (0 ≤ h.shard ∧ h.shard ≤ 63) ∧ (1 ≤ h.height ∧ h.height ≤ 1099511627776) ∧ (0 ≤ h.epoch ∧ h.epoch ≤ 1099511627776) := by
  unfold rightH; simp only [Bool.and_eq_true, inB_iff]; constructor <;> (intro h; omega)
theorem putHB_len {h : Hdr} (hk : h.ok) (hr : rightH h = true) : (putHB h).length ≤ 91 := by
  have hr := rightH_iff.1 hr
  have h1 := numB_le (n := h.shard.toNat) (by omega)
  have h2 := numB_le (n := h.height.toNat) (by omega)
  have h3 := numB_le (n := h.epoch.toNat) (by omega)
  have h4 := hk.2.2.2.1; have h5 := hk.2.2.2.2
  unfold putHB; simp only [List.length_append]; omega
theorem putEB_len {e : Ent} (hk : e.ok) (hr : rightE e = true) : (putEB e).length ≤ 77 := by
  have hr := rightE_iff.1 hr
  have h1 := numB_le (n := e.kind.toNat) (by omega)
  have h2 := numB_le (n := e.shard.toNat) (by omega)
  have h3 := numB_le (n := e.amount.toNat) (by omega)
  have h4 := numB_le (n := e.why.toNat) (by omega)
  have h5 := numB_le (n := e.epoch.toNat) (by omega)
  have h6 := hk.2.2.1
  unfold putEB; simp only [List.length_append]; omega
theorem follows_self (a : Hdr) : followsB a a = false := by
  unfold followsB
  rw [show decide (a.height = a.height + 1) = false by simp; omega]; simp
theorem follows_one {a b c : Hdr} (h : followsB a b = true) (k : followsB c b = true) : hidB a = hidB c := by
  unfold followsB at h k
  simp only [Bool.and_eq_true, beq_iff_eq] at h k
  rw [← h.2, ← k.2]
theorem next_follows {p : Hdr} {ls : List (List UInt8)} {s ep : Int} (h : nextOK p false ls s ep = true) : followsB p (nextB p false ls s ep) = true := by
  unfold nextB; rw [if_pos h]
  unfold nextOK at h
  simp only [Bool.and_eq_true, Bool.false_or, decide_eq_true_eq] at h
  obtain ⟨⟨h1, h2, h3⟩, h4⟩ := h
  unfold followsB
  rw [h4, h2]
  simp [nextH, h3]
end Go.Proofs.Ytofhohofaedokaa

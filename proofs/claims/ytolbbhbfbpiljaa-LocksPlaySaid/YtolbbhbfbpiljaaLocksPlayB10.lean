/- A region that draws its order, walked once in the order of the text: what acts (calls, new rows) yields a value of a form given ahead (Sp) with a fact that lasts while memory grows; no order need be looked at. No program in sight. -/
import Derived.Test.YtolbbhbfbpiljaaLocksPlayB9
import Derived.Test.YtolbbhbfbpiljaaLocksPlayB5
import Derived.Test.YtolbbhbfbpiljaaLocksPlayB2
import Derived.Test.YtolbbhbfbpiljaaLocksPlayB1
import Derived.Lib.SliceRun
import Derived.Lib.AppendZerosOnto
import Derived.Laws.CopyOwn
import Derived.Deep.CutBlock
set_option linter.unusedSimpArgs false
/- A region that draws its order, walked once in the order of the text: what acts (calls, new rows) yields a value of a form given ahead (Sp) with a fact that lasts while memory grows; no order need be looked at. No program in sight. -/
namespace Go.Proofs.Ytolbbhbfbpiljaa
open Go.RowKit

/-- The form of what an operation yields: 'val x', with a fact that lasts. -/
structure Sp where
  X : Type
  d : X
  val : X → Value
  ok : X → World → Prop
  st : ∀ x w w', ok x w → Grow w w' → ok x w'
/-- A value known ahead. -/
def spV (v : Value) : Sp := ⟨Unit, (), fun _ => v, fun _ _ => True, fun _ _ _ _ _ => trivial⟩

def vwp (P : Program) (o : Oper) (a : Act) (w : World) (R : Value → World → Prop) : Prop :=
  match (execOp a.eval o).run P w with
  | .ok (.value v) w' => R v w'
  | .ok .skip w' => R undef w'
  | .ok (.enter f args) w' => Calls P f args w' fun e w'' => ∃ v, e = .returned v ∧ R v w''
  | .ok (.row row args) w' => Rows P row args w' R
  | _ => False
theorem vwp_mono {P : Program} {o : Oper} {a : Act} {w : World} {R R' : Value → World → Prop} (h : ∀ v w, R v w → R' v w) (hh : vwp P o a w R) : vwp P o a w R' := by
  unfold vwp at *
  split at hh
  · exact h _ _ hh
  · exact h _ _ hh
  · exact Calls.mono hh fun e w'' ⟨v, h1, h2⟩ => ⟨v, h1, h _ _ h2⟩
  · exact Rows.mono hh fun _ _ he => h _ _ he
  · exact hh.elim
theorem vwp_same {P : Program} {o : Oper} {a a' : Act} {w : World} {R : Value → World → Prop} (he : execOp a'.eval o = execOp a.eval o) (hh : vwp P o a w R) : vwp P o a' w R := by
  unfold vwp at *; rw [he]; exact hh
theorem wp_of_vwp {P : Program} {o : Oper} {a : Act} {w : World} {R : Value → World → Prop} {K : Act → World → Prop} {Q : Exit → Act → World → Prop} (hh : vwp P o a w R) (h : ∀ v w', R v w' → K (a.put o.dst v) w') : o.wp P a w K Q := by
  unfold vwp at hh
  unfold Oper.wp
  generalize (execOp a.eval o).run P w = r at *
  cases r with
  | ok n w' =>
    cases n <;> simp only [Oper.upon] at hh ⊢
    case value => exact h _ _ hh
    case skip => exact h _ _ hh
    case enter f args =>
      refine Calls.mono hh fun e w'' he => ?_
      obtain ⟨v, rfl, hv⟩ := he
      exact h _ _ hv
    case row => exact Rows.mono hh fun _ _ he => h _ _ he
  | halt x w' => simp at hh

/-- Does i wait for k? (am: the masks of those that are waited for) -/
def fAnc (am : List Nat) (i k : Nat) : Bool := decide (k < i) && (am.getD i 0).testBit k
section
variable (P : Program) (md : Region.Mode) (ops : Array Oper) (am cl : List Nat) (sp : Nat → Sp) (w0 : World) (Q : Exit → Act → World → Prop)
def flA (am : List Nat) (L : List (Nat × (World → Prop))) (i : Nat) (w : World) : Prop := ∀ p ∈ L, fAnc am i p.1 = true → p.2 w
def wpL : List Nat → Act → List (Nat × (World → Prop)) → Prop
  | [], a, L => ∀ w, Grow w0 w → (∀ p ∈ L, p.2 w) → Q .normal a w
  | i :: us, a, L => match ops[i]? with
    | none => False
    | some o => if Region.wanted o (yielded ops a.tmps) then
        (if plCls cl i ≤ 2 then ∃ v, (∀ w, Grow w0 w → flA am L i w → (execOp a.eval o).run P w = .ok (.value v) w) ∧ wpL us (a.put o.dst v) L
        else (∀ w, Grow w0 w → flA am L i w → vwp P o a w fun v w' => Grow w w' ∧ ∃ x, v = (sp i).val x ∧ (sp i).ok x w') ∧ ∀ x, wpL us (a.put o.dst ((sp i).val x)) (L ++ [(i, (sp i).ok x)]))
      else wpL us (a.put o.dst undef) L
/-- The kernel's look. -/
def flowB : Bool := Region.noSelect ops && (List.range ops.size).all fun i => match ops[i]? with
  | none => false
  | some o => (o.after.all fun e => !Region.binds md e || decide (e.on < i)) && (List.range i).all fun k => if fAnc am i k then (o.after.any fun e => Region.binds md e && (e.on == k || fAnc am e.on k)) else (match ops[k]? with | none => false | some ok => o.apart ops ok)
end

section
variable {P : Program} {md : Region.Mode} {ops : Array Oper} {am cl : List Nat} {sp : Nat → Sp} {w0 : World} {Q : Exit → Act → World → Prop}
theorem flA_mono {L L' : List (Nat × (World → Prop))} (h : ∀ p ∈ L, p ∈ L') {i : Nat} {w : World} (hh : flA am L' i w) : flA am L i w := fun p hp => hh p (h p hp)
theorem flA.get {L : List (Nat × (World → Prop))} {i k j : Nat} {w : World} {F : World → Prop} (h : flA am L i w) (hk : L[k]? = some (j, F)) (hc : fAnc am i j = true) : F w := h (j, F) (List.mem_of_getElem? hk) hc
theorem wpL_mono : ∀ (us : List Nat) (a : Act) (L L' : List (Nat × (World → Prop))), (∀ p ∈ L, p ∈ L') → wpL P ops am cl sp w0 Q us a L → wpL P ops am cl sp w0 Q us a L'
  | [], a, L, L', h, hh => fun w hg hf => hh w hg fun p hp => hf p (h p hp)
  | i :: us, a, L, L', h, hh => by
    unfold wpL at hh ⊢
    cases ho : ops[i]? with
    | none => rw [ho] at hh; exact hh.elim
    | some o =>
      rw [ho] at hh
      simp only at hh ⊢
      split
      · rename_i hw
        rw [if_pos hw] at hh
        split
        · rename_i hc
          rw [if_pos hc] at hh
          obtain ⟨v, h1, h2⟩ := hh
          exact ⟨v, fun w hg hf => h1 w hg (flA_mono h hf), wpL_mono us _ L L' h h2⟩
        · rename_i hc
          rw [if_neg hc] at hh
          refine ⟨fun w hg hf => hh.1 w hg (flA_mono h hf), fun x => wpL_mono us _ _ _ (fun p hp => ?_) (hh.2 x)⟩
          rcases List.mem_append.1 hp with hp | hp
          · exact List.mem_append.2 (.inl (h p hp))
          · exact List.mem_append.2 (.inr hp)
      · rename_i hw
        rw [if_neg hw] at hh
        exact wpL_mono us _ L L' h hh

/-- What the operation i does now. -/
def flDo (P : Program) (ops : Array Oper) (cl : List Nat) (sp : Nat → Sp) (i : Nat) (a : Act) (w : World) : Prop :=
  match ops[i]? with
  | none => False
  | some o => Region.wanted o (yielded ops a.tmps) = true → if plCls cl i ≤ 2 then ∃ v, (execOp a.eval o).run P w = .ok (.value v) w else vwp P o a w fun v w' => Grow w w' ∧ ∃ x, v = (sp i).val x ∧ (sp i).ok x w'
/-- What it adds to the walk. -/
def flRes (P : Program) (ops : Array Oper) (cl : List Nat) (sp : Nat → Sp) (i : Nat) (o : Oper) (a : Act) (w : World) (v : Value) (Lx : List (Nat × (World → Prop))) : Prop :=
  if Region.wanted o (yielded ops a.tmps) then (if plCls cl i ≤ 2 then (execOp a.eval o).run P w = .ok (.value v) w ∧ Lx = [] else ∃ x, v = (sp i).val x ∧ Lx = [(i, (sp i).ok x)]) else v = undef ∧ Lx = []

theorem keep_put {oi ok : Oper} (hsel : ∀ cs b, oi.op ≠ .select cs b) (h3 : ∀ d, ok.dst = some d → d ∉ oi.looksAt ops) (a : Act) (u : Value) :
    execOp (a.put ok.dst u).eval oi = execOp a.eval oi ∧ Region.wanted oi (yielded ops (a.put ok.dst u).tmps) = Region.wanted oi (yielded ops a.tmps) := ⟨execOp_put oi hsel a ok.dst u h3, wanted_put oi a ok.dst u h3⟩

theorem fl_do {i : Nat} {oi : Oper} (hi : ops[i]? = some oi) (hsel : ∀ (j : Nat) (o : Oper) cs b, ops[j]? = some o → o.op ≠ .select cs b) {post : List Nat} {w : World} (hg : Grow w0 w) :
    ∀ (pre : List Nat) (a : Act) (L : List (Nat × (World → Prop))), (∀ k ∈ pre, fAnc am i k = false ∧ ∃ ok, ops[k]? = some ok ∧ oi.apart ops ok = true) → flA am L i w → wpL P ops am cl sp w0 Q (pre ++ i :: post) a L → flDo P ops cl sp i a w
  | [], a, L, hp, hf, hh => by
    unfold flDo
    simp only [List.nil_append] at hh
    unfold wpL at hh
    rw [hi] at hh ⊢
    simp only at hh ⊢
    intro hw
    rw [if_pos hw] at hh
    split
    · rename_i hc
      rw [if_pos hc] at hh
      obtain ⟨v, h1, _⟩ := hh
      exact ⟨v, h1 w hg hf⟩
    · rename_i hc
      rw [if_neg hc] at hh
      exact hh.1 w hg hf
  | k :: pre, a, L, hp, hf, hh => by
    obtain ⟨hna, ok, hok, hap⟩ := hp k (by simp)
    obtain ⟨_, _, h3⟩ := Oper.apart_spec hap
    have back : ∀ v, flDo P ops cl sp i (a.put ok.dst v) w → flDo P ops cl sp i a w := by
      intro v h
      obtain ⟨e1, e2⟩ := keep_put (ok := ok) (fun cs b => hsel i oi cs b hi) h3 a v
      unfold flDo at h ⊢
      rw [hi] at h ⊢
      simp only at h ⊢
      intro hw
      have h := h (by rw [e2]; exact hw)
      split
      · rename_i hc; rw [if_pos hc] at h; rw [← e1]; exact h
      · rename_i hc; rw [if_neg hc] at h; exact vwp_same e1.symm h
    have ih : ∀ a L, flA am L i w → wpL P ops am cl sp w0 Q (pre ++ i :: post) a L → flDo P ops cl sp i a w := fun a L hf hh => fl_do hi hsel hg pre a L (fun k hk => hp k (by simp [hk])) hf hh
    rw [List.cons_append] at hh
    unfold wpL at hh
    rw [hok] at hh
    simp only at hh
    split at hh
    · split at hh
      · obtain ⟨v, _, h2⟩ := hh
        exact back v (ih _ _ hf h2)
      · refine back _ (ih _ _ ?_ (hh.2 (sp k).d))
        intro p hp hc
        rcases List.mem_append.1 hp with hp | hp
        · exact hf p hp hc
        · simp only [List.mem_singleton] at hp
          subst hp
          rw [hna] at hc; cases hc
    · exact back _ (ih _ _ hf hh)

theorem fl_next {i : Nat} {oi : Oper} (hi : ops[i]? = some oi) (hsel : ∀ (j : Nat) (o : Oper) cs b, ops[j]? = some o → o.op ≠ .select cs b) {post : List Nat} {w : World} (hg : Grow w0 w) {v : Value} {Lx : List (Nat × (World → Prop))} :
    ∀ (pre : List Nat) (a : Act) (L : List (Nat × (World → Prop))), (∀ k ∈ pre, fAnc am i k = false ∧ ∃ ok, ops[k]? = some ok ∧ oi.apart ops ok = true) → flA am L i w → flRes P ops cl sp i oi a w v Lx → wpL P ops am cl sp w0 Q (pre ++ i :: post) a L →
      wpL P ops am cl sp w0 Q (pre ++ post) (a.put oi.dst v) (L ++ Lx)
  | [], a, L, hp, hf, hr, hh => by
    simp only [List.nil_append] at hh ⊢
    unfold wpL at hh
    rw [hi] at hh
    unfold flRes at hr
    simp only at hh
    split at hh
    · rename_i hw
      rw [if_pos hw] at hr
      split at hh
      · rename_i hc
        rw [if_pos hc] at hr
        obtain ⟨v', h1, h2⟩ := hh
        obtain ⟨r1, rfl⟩ := hr
        rw [h1 w hg hf] at r1
        cases r1
        simpa using h2
      · rename_i hc
        rw [if_neg hc] at hr
        obtain ⟨x, rfl, rfl⟩ := hr
        exact hh.2 x
    · rename_i hw
      rw [if_neg hw] at hr
      obtain ⟨rfl, rfl⟩ := hr
      simpa using hh
  | k :: pre, a, L, hp, hf, hr, hh => by
    obtain ⟨hna, ok, hok, hap⟩ := hp k (by simp)
    obtain ⟨h1, h2, h3⟩ := Oper.apart_spec hap
    obtain ⟨f1, f2⟩ := keep_put (oi := ok) (ok := oi) (ops := ops) (fun cs b => hsel k ok cs b hok) h1 a v
    have ih : ∀ a L, flA am L i w → flRes P ops cl sp i oi a w v Lx → wpL P ops am cl sp w0 Q (pre ++ i :: post) a L → wpL P ops am cl sp w0 Q (pre ++ post) (a.put oi.dst v) (L ++ Lx) := fun a L hf hr hh => fl_next hi hsel hg pre a L (fun k hk => hp k (by simp [hk])) hf hr hh
    have res : ∀ u, flRes P ops cl sp i oi (a.put ok.dst u) w v Lx := by
      intro u
      obtain ⟨e1, e2⟩ := keep_put (ok := ok) (fun cs b => hsel i oi cs b hi) h3 a u
      unfold flRes at hr ⊢
      rw [e1, e2]; exact hr
    rw [List.cons_append] at hh ⊢
    unfold wpL at hh ⊢
    rw [hok] at hh ⊢
    simp only at hh ⊢
    rw [f2]
    split
    · rename_i hw
      rw [if_pos hw] at hh
      split
      · rename_i hc
        rw [if_pos hc] at hh
        obtain ⟨u, k1, k2⟩ := hh
        refine ⟨u, fun w hg hf => ?_, ?_⟩
        · rw [f1]; exact k1 w hg (flA_mono (fun p hp => List.mem_append.2 (.inl hp)) hf)
        · rw [Act.put_comm a v u h2]; exact ih _ _ hf (res u) k2
      · rename_i hc
        rw [if_neg hc] at hh
        refine ⟨fun w hg hf => vwp_same f1 (hh.1 w hg (flA_mono (fun p hp => List.mem_append.2 (.inl hp)) hf)), fun x => ?_⟩
        rw [Act.put_comm a v _ h2]
        refine wpL_mono _ _ _ _ (fun p hp => ?_) (ih _ _ ?_ (res _) (hh.2 x))
        · simp only [List.mem_append, List.mem_singleton] at hp ⊢
          rcases hp with (hp | hp) | hp
          · exact .inl (.inl hp)
          · exact .inr hp
          · exact .inl (.inr hp)
        · intro p hp hc
          rcases List.mem_append.1 hp with hp | hp
          · exact hf p hp hc
          · simp only [List.mem_singleton] at hp
            subst hp
            rw [hna] at hc; cases hc
    · rename_i hw
      rw [if_neg hw] at hh
      rw [Act.put_comm a v _ h2]
      exact ih _ _ hf (res _) hh

def unl (ops : Array Oper) (listed : Array Bool) : List Nat := (List.range ops.size).filter fun i => !listed.getD i true
theorem unl_split {listed : Array Bool} {i : Nat} (hi : i ∈ unl ops listed) : ∃ pre post, unl ops listed = pre ++ i :: post ∧ (∀ k ∈ pre, k < i ∧ listed.getD k true = false) ∧ unl ops (listed.setIfInBounds i true) = pre ++ post := by
  obtain ⟨pre, post, e⟩ := List.append_of_mem hi
  have hs : (unl ops listed).Pairwise (· < ·) := List.Pairwise.filter _ List.pairwise_lt_range
  have hmem : ∀ k, k ∈ unl ops listed → listed.getD k true = false := fun k hk => by have := (List.mem_filter.1 hk).2; simpa using this
  rw [e] at hs
  have hlt : ∀ k ∈ pre, k < i := fun k hk => (List.pairwise_append.1 hs).2.2 k hk i (by simp)
  have hgt : ∀ k ∈ post, i < k := fun k hk => (List.pairwise_cons.1 (List.pairwise_append.1 hs).2.1).1 k hk
  refine ⟨pre, post, e, fun k hk => ⟨hlt k hk, hmem k (by rw [e]; simp [hk])⟩, ?_⟩
  have h1 : unl ops (listed.setIfInBounds i true) = (unl ops listed).filter fun k => k != i := by
    unfold unl
    rw [List.filter_filter]
    refine List.filter_congr fun k hk => ?_
    by_cases hki : i = k
    · subst hki
      have hl : listed.getD i true = false := hmem i hi
      have := getD_set_true (i := i) (j := i) (listed := listed)
      have hh : (listed.setIfInBounds i true).getD i true = true := by
        rcases Nat.lt_or_ge i listed.size with h | h
        · simp [Array.getD_eq_getD_getElem?, h]
        · simp [Array.getD_eq_getD_getElem?, Array.getElem?_eq_none h] at hl
      rw [hh]; simp
    · rw [getD_ne true hki]
      have : (k != i) = true := by simpa using fun e => hki e.symm
      rw [this]; simp
  rw [h1, e, List.filter_append, List.filter_cons]
  have a1 : pre.filter (fun k => k != i) = pre := List.filter_eq_self.2 fun k hk => by have := hlt k hk; simp; omega
  have a2 : post.filter (fun k => k != i) = post := List.filter_eq_self.2 fun k hk => by have := hgt k hk; simp; omega
  rw [a1, a2]; simp

theorem fanc_listed (hB : ∀ i ∈ List.range ops.size, (match ops[i]? with
    | none => false
    | some o => (o.after.all fun e => !Region.binds md e || decide (e.on < i)) && (List.range i).all fun k => if fAnc am i k then (o.after.any fun e => Region.binds md e && (e.on == k || fAnc am e.on k)) else (match ops[k]? with | none => false | some ok => o.apart ops ok)) = true)
    {listed : Array Bool} (hcl : PClosed md ops listed) : ∀ (i : Nat) (o : Oper), ops[i]? = some o → (∀ e ∈ o.after, Region.binds md e = true → listed.getD e.on false = true) → ∀ k, fAnc am i k = true → listed.getD k false = true := by
  intro i
  induction i using Nat.strongRecOn with
  | ind i ih =>
    intro o ho hall k hk
    have hlt : i < ops.size := (Array.getElem?_eq_some_iff.1 ho).1
    have h := hB i (List.mem_range.2 hlt)
    rw [ho] at h
    simp only [Bool.and_eq_true] at h
    have hki : k < i := by unfold fAnc at hk; simp only [Bool.and_eq_true, decide_eq_true_eq] at hk; exact hk.1
    have h2 := List.all_eq_true.1 h.2 k (List.mem_range.2 hki)
    rw [hk] at h2
    simp only [if_true] at h2
    obtain ⟨e, he, h3⟩ := Array.any_eq_true'.1 h2
    simp only [Bool.and_eq_true, Bool.or_eq_true, beq_iff_eq] at h3
    obtain ⟨hb, h3⟩ := h3
    have hl := hall e he hb
    rcases h3 with h3 | h3
    · rw [← h3]; exact hl
    · have h4 := Array.all_eq_true_iff_forall_mem.1 h.1 e he
      rw [hb] at h4
      have h5 : e.on < i := by simpa using h4
      have h6 : e.on < ops.size := by omega
      exact ih e.on h5 ops[e.on] (by simp [h6]) (fun e' he' hb' => hcl e.on ops[e.on] (by simp [h6]) hl e' he' hb') k h3
theorem wpAny_of_L (hB : flowB md ops am = true) : ∀ (f : Nat) (listed : Array Bool) (a : Act) (w : World) (L : List (Nat × (World → Prop))), (unl ops listed).length = f → PClosed md ops listed → Grow w0 w → (∀ p ∈ L, p.2 w ∧ ∀ w1 w2, p.2 w1 → Grow w1 w2 → p.2 w2) →
    wpL P ops am cl sp w0 Q (unl ops listed) a L → wpAny P md ops Q f listed a w := by
  simp only [flowB, Bool.and_eq_true, List.all_eq_true] at hB
  obtain ⟨hns, hB⟩ := hB
  have hsel := Region.noSelect_spec hns
  intro f
  induction f with
  | zero =>
    intro listed a w L hl hcl hg hf hh
    have hu : unl ops listed = [] := List.eq_nil_of_length_eq_zero hl
    rw [hu] at hh
    refine ⟨List.eq_nil_iff_forall_not_mem.2 fun i hi => ?_, hh w hg fun p hp => (hf p hp).1⟩
    obtain ⟨h1, o, h2, _⟩ := mem_ready.1 hi
    have : i ∈ unl ops listed := List.mem_filter.2 ⟨List.mem_range.2 (Array.getElem?_eq_some_iff.1 h2).1, by simp [h1]⟩
    rw [hu] at this; cases this
  | succ f ih =>
    intro listed a w L hl hcl hg hf hh
    refine ⟨fun hr => ?_, fun i hi => ?_⟩
    · -- the first unlisted is ready
      obtain ⟨i, us, hu⟩ : ∃ i us, unl ops listed = i :: us := by
        cases e : unl ops listed with
        | nil => rw [e] at hl; cases hl
        | cons i us => exact ⟨i, us, rfl⟩
      have him : i ∈ unl ops listed := by rw [hu]; simp
      have hs : (unl ops listed).Pairwise (· < ·) := List.Pairwise.filter _ List.pairwise_lt_range
      obtain ⟨him1, him2⟩ := List.mem_filter.1 him
      have hlt : i < ops.size := List.mem_range.1 him1
      have hrd : i ∈ Region.ready md ops listed := by
        refine mem_ready.2 ⟨by simpa using him2, ops[i], by simp [hlt], fun e he hb => ?_⟩
        have h1 := hB i (List.mem_range.2 hlt)
        rw [show ops[i]? = some ops[i] by simp [hlt]] at h1
        simp only [Bool.and_eq_true] at h1
        have h2 := Array.all_eq_true_iff_forall_mem.1 h1.1 e he
        rw [hb] at h2
        have h3 : e.on < i := by simpa using h2
        cases hv : listed.getD e.on true with
        | true =>
          rcases Nat.lt_or_ge e.on listed.size with h | h
          · simp [Array.getD_eq_getD_getElem?, h] at hv ⊢; exact hv
          · have : listed.getD i true = true := by simp [Array.getD_eq_getD_getElem?, Array.getElem?_eq_none (show listed.size ≤ i by omega)]
            rw [this] at him2; simp at him2
        | false =>
          have hm : e.on ∈ unl ops listed := List.mem_filter.2 ⟨List.mem_range.2 (by omega), by simp [hv]⟩
          rw [hu] at hm hs
          rcases List.mem_cons.1 hm with e1 | e1
          · omega
          · have := (List.pairwise_cons.1 hs).1 _ e1; omega
      rw [hr] at hrd; cases hrd
    · obtain ⟨hun, o, ho, hall⟩ := mem_ready.1 hi
      have hlt : i < ops.size := (Array.getElem?_eq_some_iff.1 ho).1
      obtain ⟨pre, post, e, hpre, hnext⟩ := unl_split (ops := ops) (listed := listed) (i := i) (List.mem_filter.2 ⟨List.mem_range.2 hlt, by simp [hun]⟩)
      have hap : ∀ k ∈ pre, fAnc am i k = false ∧ ∃ ok, ops[k]? = some ok ∧ o.apart ops ok = true := by
        intro k hk
        obtain ⟨h1, h2⟩ := hpre k hk
        have hno : fAnc am i k = false := by
          cases hc : fAnc am i k with
          | false => rfl
          | true => have := fanc_listed hB hcl i o ho hall k hc; rw [getD_tf h2] at this; cases this
        refine ⟨hno, ?_⟩
        have h3 := hB i (List.mem_range.2 hlt)
        rw [ho] at h3
        simp only [Bool.and_eq_true] at h3
        have h4 := List.all_eq_true.1 h3.2 k (List.mem_range.2 h1)
        rw [hno] at h4
        simp only [Bool.false_eq_true, if_false] at h4
        cases hk : ops[k]? with
        | none => rw [hk] at h4; cases h4
        | some ok => rw [hk] at h4; exact ⟨ok, rfl, h4⟩
      have hfa : flA am L i w := fun p hp _ => (hf p hp).1
      rw [e] at hh
      have hdo := fl_do ho hsel hg pre a L hap hfa hh
      have hlen : (unl ops (listed.setIfInBounds i true)).length = f := by
        rw [hnext]; rw [e] at hl; simp at hl ⊢; omega
      have go : ∀ (v : Value) (Lx : List (Nat × (World → Prop))) (w' : World), flRes P ops cl sp i o a w v Lx → Grow w w' → (∀ p ∈ Lx, p.2 w' ∧ ∀ w1 w2, p.2 w1 → Grow w1 w2 → p.2 w2) → wpAny P md ops Q f (listed.setIfInBounds i true) (a.put o.dst v) w' := by
        intro v Lx w' hr hgw hfx
        refine ih _ _ _ (L ++ Lx) hlen (closed_set hcl hi) (Grow.trans _ _ _ hg hgw) (fun p hp => ?_) ?_
        · rcases List.mem_append.1 hp with hp | hp
          · exact ⟨(hf p hp).2 _ _ (hf p hp).1 hgw, (hf p hp).2⟩
          · exact hfx p hp
        · rw [hnext]; exact fl_next ho hsel hg pre a L hap hfa hr hh
      unfold wpOp
      rw [ho]
      simp only
      unfold flDo at hdo
      rw [ho] at hdo
      simp only at hdo
      split
      · rename_i hw
        left
        have hdo := hdo hw
        split at hdo
        · rename_i hc
          obtain ⟨v, hv⟩ := hdo
          unfold Oper.wp
          rw [hv]
          exact go v [] w (by unfold flRes; rw [if_pos hw, if_pos hc]; exact ⟨hv, rfl⟩) (Grow.refl w) (fun p hp => by cases hp)
        · rename_i hc
          refine wp_of_vwp hdo fun v w' hv => ?_
          obtain ⟨hgw, x, rfl, hx⟩ := hv
          refine go _ [(i, (sp i).ok x)] w' (by unfold flRes; rw [if_pos hw, if_neg hc]; exact ⟨x, rfl, rfl⟩) hgw (fun p hp => ?_)
          simp only [List.mem_singleton] at hp
          subst hp
          exact ⟨hx, fun w1 w2 h k => (sp i).st x w1 w2 h k⟩
      · rename_i hw
        exact go undef [] w (by unfold flRes; rw [if_neg hw]; exact ⟨rfl, rfl⟩) (Grow.refl w) (fun p hp => by cases hp)
theorem all_un (n : Nat) : ∀ i ∈ List.range n, (!(Array.replicate n false).getD i true) = true := by
  intro i hi
  have : i < n := List.mem_range.1 hi
  simp [Array.getD_eq_getD_getElem?, this]
/-- The law. -/
theorem wp_flow {id : Nat} {a : Act} {w : World} {l : List Oper} (am cl : List Nat) (sp : Nat → Sp) (hm : P.follows .mixedOrders = true) (hB : flowB .any l.toArray am = true)
    (h : ∀ w2, Drawn w w2 → wpL P l.toArray am cl sp w2 Q (List.range l.length) a []) : (Code.region id l.toArray true).wp P Q a w := by
  replace h := h w.drew (Drawn.one w)
  refine wp_region_any hm (wpAny_of_L (am := am) (w0 := w.drew) (cl := cl) (sp := sp) hB _ _ _ _ [] ?_ ?_ (Grow.refl _) (fun p hp => by cases hp) ?_)
  · unfold unl
    rw [List.filter_eq_self.2 (all_un l.toArray.size)]
    simp
  · intro j oj _ hj
    rw [Array.getD_eq_getD_getElem?, Array.getElem?_replicate] at hj
    split at hj <;> simp at hj
  · unfold unl
    rw [List.filter_eq_self.2 (all_un l.toArray.size)]
    simpa using h

/-! ### Steps -/
variable {o : Oper} {i : Nat} {us : List Nat} {a : Act} {L : List (Nat × (World → Prop))}
theorem fl_done (h : ∀ w, Grow w0 w → (∀ p ∈ L, p.2 w) → Q .normal a w) : wpL P ops am cl sp w0 Q [] a L := h
theorem fl_calm {v : Value} (hi : ops[i]? = some o) (hc : plCls cl i ≤ 2) (hw : Region.wanted o (yielded ops a.tmps) = true) (h : ∀ w, Grow w0 w → flA am L i w → (execOp a.eval o).run P w = .ok (.value v) w)
    (hk : ∀ K : Act → Prop, (∀ a, wpL P ops am cl sp w0 Q us a L → K a) → K (a.put o.dst v)) : wpL P ops am cl sp w0 Q (i :: us) a L := by
  unfold wpL; rw [hi]; simp only; rw [if_pos hw, if_pos hc]; exact ⟨v, h, hk _ fun _ h => h⟩
theorem fl_skip (hi : ops[i]? = some o) (hw : Region.wanted o (yielded ops a.tmps) = false)
    (hk : ∀ K : Act → Prop, (∀ a, wpL P ops am cl sp w0 Q us a L → K a) → K (a.put o.dst undef)) : wpL P ops am cl sp w0 Q (i :: us) a L := by
  unfold wpL; rw [hi]; simp only; rw [if_neg (by rw [hw]; simp)]; exact hk _ fun _ h => h
theorem fl_act (hi : ops[i]? = some o) (hc : plCls cl i = 3) (hw : Region.wanted o (yielded ops a.tmps) = true)
    (h : ∀ w, Grow w0 w → flA am L i w → vwp P o a w fun v w' => Grow w w' ∧ ∃ x, v = (sp i).val x ∧ (sp i).ok x w')
    (hk : ∀ x, ∀ K : Act → Prop, (∀ a, wpL P ops am cl sp w0 Q us a (L ++ [(i, (sp i).ok x)]) → K a) → K (a.put o.dst ((sp i).val x))) : wpL P ops am cl sp w0 Q (i :: us) a L := by
  unfold wpL; rw [hi]; simp only; rw [if_pos hw, if_neg (by omega)]; exact ⟨h, fun x => hk x _ fun _ h => h⟩
theorem fl_call {f : FuncId} {args : Array Value} (hi : ops[i]? = some o) (hc : plCls cl i = 3) (hw : Region.wanted o (yielded ops a.tmps) = true) (hr : ∀ w, (execOp a.eval o).run P w = .ok (.enter f args) w)
    (h : ∀ w, Grow w0 w → flA am L i w → Calls P f args w fun e w' => ∃ x, e = .returned ((sp i).val x) ∧ (sp i).ok x w' ∧ Grow w w')
    (hk : ∀ x, ∀ K : Act → Prop, (∀ a, wpL P ops am cl sp w0 Q us a (L ++ [(i, (sp i).ok x)]) → K a) → K (a.put o.dst ((sp i).val x))) : wpL P ops am cl sp w0 Q (i :: us) a L := by
  refine fl_act hi hc hw (fun w hg hf => ?_) hk
  unfold vwp
  rw [hr w]
  exact (h w hg hf).mono fun e w' ⟨x, h1, h2, h3⟩ => ⟨_, h1, h3, x, rfl, h2⟩
/-- A row laid anew. -/
theorem fl_new {n : Nat} {cs : Array Value} {T : TypeId} (hi : ops[i]? = some o) (hc : plCls cl i = 3) (hw : Region.wanted o (yielded ops a.tmps) = true)
    (hr : ∀ w, (execOp a.eval o).run P w = .ok (.value (.slice (some ⟨w.heap.size, 0, none⟩) n n)) (w.alloc (.cells cs T)))
    (h : ∀ w w' g, flA am L i w → Grow w w' → Grow w0 w' → Blk w' g T cs.toList → ∃ x, Value.slice (some ⟨g, 0, none⟩) n n = (sp i).val x ∧ (sp i).ok x w')
    (hk : ∀ x, ∀ K : Act → Prop, (∀ a, wpL P ops am cl sp w0 Q us a (L ++ [(i, (sp i).ok x)]) → K a) → K (a.put o.dst ((sp i).val x))) : wpL P ops am cl sp w0 Q (i :: us) a L := by
  refine fl_act hi hc hw (fun w hg hf => ?_) hk
  unfold vwp
  rw [hr w]
  have hn := alloc_new w cs T
  exact ⟨hn.2.1, h w _ _ hf hn.2.1 (Grow.trans _ _ _ hg hn.2.1) hn.1⟩
/-! ### Values known ahead; slices -/
def spS (n : Nat) (F : Option Addr → Nat → World → Prop) (st : ∀ A c w w', F A c w → Grow w w' → F A c w') : Sp := ⟨Option Addr × Nat, (none, 0), fun x => .slice x.1 n x.2, fun x w => F x.1 x.2 w, fun x => st x.1 x.2⟩
theorem fl_callv {v : Value} {f : FuncId} {args : Array Value} (hi : ops[i]? = some o) (hc : plCls cl i = 3) (hS : sp i = spV v) (hw : Region.wanted o (yielded ops a.tmps) = true) (hr : ∀ w, (execOp a.eval o).run P w = .ok (.enter f args) w)
    (h : ∀ w, Grow w0 w → flA am L i w → Calls P f args w fun e w' => e = .returned v ∧ Below w.heap.size w w')
    (hk : ∀ K : Act → Prop, (∀ a, wpL P ops am cl sp w0 Q us a (L ++ [(i, fun _ => True)]) → K a) → K (a.put o.dst v)) : wpL P ops am cl sp w0 Q (i :: us) a L := by
  refine fl_call hi hc hw hr ?_ ?_
  · rw [hS]; intro w hg hf; exact (h w hg hf).mono fun e w' ⟨h1, h2⟩ => ⟨(), h1, trivial, h2⟩
  · rw [hS]; intro x K hK; exact hk K hK
theorem fl_calls {n : Nat} {F : Option Addr → Nat → World → Prop} {st : ∀ A c w w', F A c w → Grow w w' → F A c w'} {f : FuncId} {args : Array Value} (hi : ops[i]? = some o) (hc : plCls cl i = 3) (hS : sp i = spS n F st) (hw : Region.wanted o (yielded ops a.tmps) = true) (hr : ∀ w, (execOp a.eval o).run P w = .ok (.enter f args) w)
    (h : ∀ w, Grow w0 w → flA am L i w → Calls P f args w fun e w' => ∃ A c, e = .returned (.slice A n c) ∧ F A c w' ∧ Below w.heap.size w w')
    (hk : ∀ A c, ∀ K : Act → Prop, (∀ a, wpL P ops am cl sp w0 Q us a (L ++ [(i, F A c)]) → K a) → K (a.put o.dst (.slice A n c))) : wpL P ops am cl sp w0 Q (i :: us) a L := by
  refine fl_call hi hc hw hr ?_ ?_
  · rw [hS]; intro w hg hf; exact (h w hg hf).mono fun e w' ⟨A, c, h1, h2, h3⟩ => ⟨(A, c), h1, h2, h3⟩
  · rw [hS]; intro x K hK; exact hk x.1 x.2 K hK
theorem fl_news {n : Nat} {F : Option Addr → Nat → World → Prop} {st : ∀ A c w w', F A c w → Grow w w' → F A c w'} {cs : Array Value} {T : TypeId} (hi : ops[i]? = some o) (hc : plCls cl i = 3) (hS : sp i = spS n F st) (hw : Region.wanted o (yielded ops a.tmps) = true)
    (hr : ∀ w, (execOp a.eval o).run P w = .ok (.value (.slice (some ⟨w.heap.size, 0, none⟩) n n)) (w.alloc (.cells cs T)))
    (h : ∀ w w' g, flA am L i w → Grow w w' → Grow w0 w' → Blk w' g T cs.toList → F (some ⟨g, 0, none⟩) n w')
    (hk : ∀ A c, ∀ K : Act → Prop, (∀ a, wpL P ops am cl sp w0 Q us a (L ++ [(i, F A c)]) → K a) → K (a.put o.dst (.slice A n c))) : wpL P ops am cl sp w0 Q (i :: us) a L := by
  refine fl_new hi hc hw hr ?_ ?_
  · rw [hS]; intro w w' g h1 h2 h3 h4; exact ⟨(some ⟨g, 0, none⟩, n), rfl, h w w' g h1 h2 h3 h4⟩
  · rw [hS]; intro x K hK; exact hk x.1 x.2 K hK
/-- A cell read; a whole block read. -/
theorem fl_load {T : TypeId} {x : Operand} {p : Addr} {v : Value} (hi : ops[i]? = some o) (hc : plCls cl i ≤ 2) (hw : Region.wanted o (yielded ops a.tmps) = true) (ho : o.op = .load T x) (hx : a.eval x = .pointer (some p))
    (hT : (match P.underlying T with | some (.struct _) | some (.array _ _) => false | some _ => true | none => false) = true) (hv : w0.cell? p = some v)
    (hk : ∀ K : Act → Prop, (∀ a, wpL P ops am cl sp w0 Q us a L → K a) → K (a.put o.dst v)) : wpL P ops am cl sp w0 Q (i :: us) a L := by
  refine fl_calm hi hc hw (fun w' hf _ => ?_) hk
  have hv' : w'.cell? p = some v := by
    have := World.block_lt_of_cell? w0 p hv
    rw [hf.cell this]; exact hv
  unfold execOp
  simp only [ho, hx, Instr.loadAt, Instr.sureAddr, Sem.run_bind, Sem.run_pure, Result.andThen_ok]
  cases hd : P.underlying T with
  | none => rw [hd] at hT; cases hT
  | some d =>
    rw [hd] at hT
    have hagg : (isAgg T).run P w' = .ok false w' := by
      unfold isAgg
      rw [Sem.run_bind, run_underlying hd w']
      cases d <;> simp_all
    simp [loadVar, hagg, load, Sem.run, hv']
theorem fl_loadb {T : TypeId} {x : Operand} {n : Nat} {g : Nat} {T' : TypeId} {cs : List Value} (hi : ops[i]? = some o) (hc : plCls cl i ≤ 2) (hw : Region.wanted o (yielded ops a.tmps) = true) (ho : o.op = .load T x) (hT : RowT P T n)
    (hb : Blk w0 g T' cs) (hx : a.eval x = .pointer (some ⟨g, 0, none⟩)) (hn : cs.length = n)
    (hk : ∀ K : Act → Prop, (∀ a, wpL P ops am cl sp w0 Q us a L → K a) → K (a.put o.dst (.agg cs.toArray))) : wpL P ops am cl sp w0 Q (i :: us) a L := by
  refine fl_calm hi hc hw (fun w' hf _ => ?_) hk
  obtain ⟨d, hu, hd, hi⟩ := hT
  have hrun := run_loadVar_row (P := P) w' g T' T cs.toArray (0, 0) d (hb.call hf) hu (by revert hd; cases d <;> simp) (by rw [hi]; simp [hn])
  unfold execOp
  simp only [ho, hx, Instr.loadAt, Instr.sureAddr, Sem.run_bind, Sem.run_pure, Result.andThen_ok, hrun]
theorem fl_loadm {T : TypeId} {x : Operand} {n b off : Nat} {cs : List Value} (hi : ops[i]? = some o) (hc : plCls cl i ≤ 2) (hw : Region.wanted o (yielded ops a.tmps) = true) (ho : o.op = .load T x) (hT : RowT P T n)
    (hv : ∀ j u, cs[j]? = some u → w0.cell? ⟨b, off + j, none⟩ = some u) (hx : a.eval x = .pointer (some ⟨b, off, none⟩)) (hn : cs.length = n)
    (hk : ∀ K : Act → Prop, (∀ a, wpL P ops am cl sp w0 Q us a L → K a) → K (a.put o.dst (.agg cs.toArray))) : wpL P ops am cl sp w0 Q (i :: us) a L := by
  refine fl_calm hi hc hw (fun w' hf _ => ?_) hk
  obtain ⟨d, hu, hd, hi⟩ := hT
  have hrun := run_loadVar_mid (P := P) w' b off T cs d (fun j u hj => by
    have h1 := hv j u hj
    rw [hf.cell (World.block_lt_of_cell? w0 _ h1)]; exact h1) hu (by cases d <;> simp_all) (by rw [hi, hn])
  unfold execOp
  simp only [ho, hx, Instr.loadAt, Instr.sureAddr, Sem.run_bind, Sem.run_pure, Result.andThen_ok, hrun]
end
attribute [irreducible] wpL
end Go.Proofs.Ytolbbhbfbpiljaa

/- Blocks that hold n cells, cells of one word, a row of one struct, one cell written. No program in sight. -/
namespace Go.Proofs.Ytolbbhbfbpiljaa
open Go.RowKit
set_option linter.unusedVariables false
set_option linter.unusedSimpArgs false
theorem wanted_none {o : Oper} {y : Nat → Option Bool} (h : o.guard = none) : Region.wanted o y = true := by unfold Region.wanted; rw [h]
/-- A block that holds n cells. -/
def At (w : World) (g : Nat) (T : TypeId) (n : Nat) (xs : List Value) : Prop := Blk w g T xs ∧ xs.length = n
theorem at_mk {w : World} {g : Nat} {T : TypeId} {n : Nat} {xs : List Value} (h : Blk w g T xs) (hn : xs.length = n) : At w g T n xs := ⟨h, hn⟩
theorem At.blk {w : World} {g : Nat} {T : TypeId} {n : Nat} {xs : List Value} (h : At w g T n xs) : Blk w g T xs := h.1
theorem At.len {w : World} {g : Nat} {T : TypeId} {n : Nat} {xs : List Value} (h : At w g T n xs) : xs.length = n := h.2
theorem At.grow {w w' : World} {g : Nat} {T : TypeId} {n : Nat} {xs : List Value} (h : At w g T n xs) (k : Grow w w') : At w' g T n xs := ⟨h.1.grow k, h.2⟩
theorem At.sl {w : World} {g : Nat} {T : TypeId} {n : Nat} {xs : List Value} (h : At w g T n xs) : Sl w w.heap.size 1 (some ⟨g, 0, none⟩) n xs := h.1.sl (by rw [h.2]; omega)
theorem At.lt {w : World} {g : Nat} {T : TypeId} {n : Nat} {xs : List Value} (h : At w g T n xs) : g < w.heap.size := h.1.lt
theorem At.off {w w' : World} {g g2 : Nat} {T : TypeId} {n : Nat} {xs : List Value} (h : At w g T n xs) (k : w.grownBy w' (some g2)) (hne : g ≠ g2) : At w' g T n xs := ⟨h.1.grown k (by simpa using hne), h.2⟩
theorem var_grow {w w1 w2 : World} (h1 : Below w.heap.size w w1) (hz : w1.heap.size = w.heap.size + 1) (hg : w1.grownBy w2 (some w.heap.size)) : Grow w w2 :=
  h1.grown hg (by omega) (by intro g hg; cases hg; exact Nat.le_refl _)
theorem put_below {w0 w w2 : World} {g : Nat} (h : Below w0.heap.size w0 w) (hg : w0.heap.size ≤ g) (k : w.grownBy w2 (some g)) : Below w0.heap.size w0 w2 :=
  h.grown k h.size (by intro q hq; cases hq; exact hg)
/-- n cells, each one. -/
def Cl (n : Nat) (xs : List Value) : Prop := xs.length = n ∧ ∀ u ∈ xs, u.oneCell' = true
theorem Cl.len {n : Nat} {xs : List Value} (h : Cl n xs) : xs.length = n := h.1
theorem Cl.one {n : Nat} {xs : List Value} (h : Cl n xs) : ∀ u ∈ xs, u.oneCell' = true := h.2
section
variable {P : Program} {ops : Array Oper} {rest : List Oper} {o : Oper} {a : Act} {w : World} {Q : Exit → Act → World → Prop}
theorem wpl_store1 (hgd : o.guard = none) {T : TypeId} {x y : Operand} (ho : o.op = .store T x y) {g i : Nat} {t : TypeId} {cs : List Value} {v : Value} (hb : Blk w g t cs) (hx : a.eval x = .pointer (some ⟨g, i, none⟩)) (hy : a.eval y = v)
    (hT : (P.info? T).map (·.size) = some 1) (hv : v.cells = #[v]) (h1 : v.oneCell' = true) (hi : i < cs.length)
    (h : ∀ w', Blk w' g t (cs.set i v) → w.grownBy w' (some g) → w'.heap.size = w.heap.size → wpList P ops Q rest (a.put o.dst undef) w') : wpList P ops Q (o :: rest) a w := by
  refine wpList_plain hgd fun K hK => ?_
  have hc := hb.at_ (List.getElem?_eq_getElem hi)
  have hf := hb.frozen i
  have hrun : (Instr.storeAt T (.pointer (some ⟨g, i, none⟩)) v).run P w = .ok () (w.setCell ⟨g, i, none⟩ v) := by
    obtain ⟨inf, hi2, hs⟩ := Option.map_eq_some_iff.1 hT
    have e0 : Addr.add ⟨g, i, none⟩ 0 = ⟨g, i, none⟩ := by rw [Addr.add_lit]; rfl
    have e1 : (store ⟨g, i, none⟩ v).run P w = .ok () (w.setCell ⟨g, i, none⟩ v) := by rw [run_store _ _ _ _ _ h1]; simp [stored, hc, hf]
    simp [Instr.storeAt, Instr.sureAddr, storeVar, sizeOf, typeInfo, hi2, hs, hv, storeCells, e0, e1]
  unfold Oper.wp execOp
  simp only [ho, hx, hy, Sem.run_bind, hrun, Result.andThen_ok, Sem.run_pure]
  exact hK _ _ (h _ (hb.set_ i v) (grown_set w g i v) (by simp))
end
theorem run_row1 {P : Program} {w : World} {t e : TypeId} {sz bytes : Nat} (HE : ElemT P t e sz bytes) {ys : List Value} (hl : ys.length = sz) (h24 : sz ≤ 16777216) :
    (Instr.buildSlice t 1 #[(0, .agg ys.toArray)]).run P w = .ok (.slice (some ⟨w.heap.size, 0, none⟩) 1 1) (w.alloc (.cells ys.toArray e)) := by
  obtain ⟨i, z, hi, hz, hsz, hby, hzs, h0⟩ := HE.hi
  have h1 : ¬ (16777216 < i.size) := by omega
  have h2 : ¬ (i.size = 0) := by omega
  have hf : Instr.fill (fun k => some (k * i.size, i.size)) ((Array.range i.size).map fun k => z.cells[k % z.cells.size]!) [(0, .agg ys.toArray)] = some ys.toArray := by
    obtain ⟨cs, hcs⟩ : ∃ cs : List Value, cs = ((Array.range i.size).map fun k => z.cells[k % z.cells.size]!).toList := ⟨_, rfl⟩
    have e1 : ((Array.range i.size).map fun k => z.cells[k % z.cells.size]!) = cs.toArray := by rw [hcs]
    have hcl : cs.length = i.size := by rw [hcs]; simp
    rw [e1, fill_cons (off := 0) (s := i.size) (cs := ys) (by simp) rfl (by omega) (by omega), fill_nil]
    congr 2
    unfold splice
    rw [List.drop_of_length_le (by omega)]; simp
  simp [Instr.buildSlice, run_underlying HE.ht, sizeOf, typeInfo, zeroValue, hi, hz, h1, h2, hf, newRow]
theorem wpl_row1 {P : Program} {w : World} {ops : Array Oper} {rest : List Oper} {o : Oper} {a : Act} {Q : Exit → Act → World → Prop} (hgd : o.guard = none) {t : TypeId} {x : Operand} (ho : o.op = .buildSlice t 1 #[(0, x)]) {e : TypeId} {sz bytes : Nat} (HE : ElemT P t e sz bytes) {ys : List Value}
    (hx : a.eval x = .agg ys.toArray) (hl : ys.length = sz) (h24 : sz ≤ 16777216)
    (h : ∀ w', Blk w' w.heap.size e ys → Grow w w' → w'.heap.size = w.heap.size + 1 → wpList P ops Q rest (a.put o.dst (.slice (some ⟨w.heap.size, 0, none⟩) 1 1)) w') : wpList P ops Q (o :: rest) a w := by
  refine wpList_plain hgd fun K hK => ?_
  have hr := run_row1 (P := P) (w := w) HE hl h24
  obtain ⟨n1, n2, n3⟩ := alloc_new w ys.toArray e
  unfold Oper.wp execOp
  simp only [ho, List.map_toArray, List.map_cons, List.map_nil, hx, Sem.run_bind, hr, Result.andThen_ok, Sem.run_pure]
  exact hK _ _ (h _ n1 n2 n3)
theorem wpl_buildw {P : Program} {ops : Array Oper} {rest : List Oper} {o : Oper} {a : Act} {w : World} {Q : Exit → Act → World → Prop} (hw : Region.wanted o (yielded ops a.tmps) = true) {t : TypeId} {parts : Array (Nat × Operand)} (ho : o.op = .build t parts) {cells : List Value} (h : P.built t (parts.toList.map fun (i, x) => (i, a.eval x)) = some cells.toArray)
    (hk : wpList P ops Q rest (a.put o.dst (.agg cells.toArray)) w) : wpList P ops Q (o :: rest) a w := by
  refine wpl_wanted hw fun K hK => ?_
  unfold Oper.wp
  rw [exec_build ho h w]
  exact hK _ _ hk
theorem wpl_loadmw {P : Program} {ops : Array Oper} {rest : List Oper} {o : Oper} {a : Act} {w : World} {Q : Exit → Act → World → Prop} (hw : Region.wanted o (yielded ops a.tmps) = true) {T : TypeId} {x : Operand} (ho : o.op = .load T x) {n : Nat} (hT : RowT P T n) {b off : Nat} {cs : List Value} (hc : ∀ j u, cs[j]? = some u → w.cell? ⟨b, off + j, none⟩ = some u) (hx : a.eval x = .pointer (some ⟨b, off, none⟩)) (hn : cs.length = n)
    (h : wpList P ops Q rest (a.put o.dst (.agg cs.toArray)) w) : wpList P ops Q (o :: rest) a w := by
  refine wpl_wanted hw fun K hK => ?_
  obtain ⟨d, hu, hd, hi⟩ := hT
  have hrun := run_loadVar_mid (P := P) w b off T cs d hc hu (by cases d <;> simp_all) (by rw [hi, hn])
  unfold Oper.wp execOp
  simp only [ho, hx, Instr.loadAt, Instr.sureAddr, Sem.run_bind, Sem.run_pure, Result.andThen_ok, hrun]
  exact hK _ _ h
def MidAt (w : World) (b off : Nat) (cs : List Value) : Prop := ∀ j u, cs[j]? = some u → w.cell? ⟨b, off + j, none⟩ = some u
theorem MidAt.grow {w w' : World} {b off : Nat} {cs : List Value} (h : MidAt w b off cs) (k : Grow w w') : MidAt w' b off cs := fun j u hu => bcell k (h j u hu)
end Go.Proofs.Ytolbbhbfbpiljaa

/- The walk's halt at one operation: what follows is done by hand. No program in sight. -/
namespace Go.Proofs.Ytolbbhbfbpiljaa
open Go.RowKit
set_option linter.unusedVariables false
def StopT (p : Prop) : Prop := p
theorem wpl_stop {P : Program} {ops : Array Oper} {rest : List Oper} {o : Oper} {a : Act} {w : World} {Q : Exit → Act → World → Prop} (h : StopT (wpList P ops Q (o :: rest) a w)) : wpList P ops Q (o :: rest) a w := h
theorem stop_go {p : Prop} (h : p) : StopT p := h
end Go.Proofs.Ytolbbhbfbpiljaa

/- Words on rows of elements of more cells than one: copied into, appended to in place, cleared behind. No program in sight. -/
namespace Go.Proofs.Ytolbbhbfbpiljaa
open Go.RowKit
set_option linter.unusedVariables false
set_option linter.unusedSimpArgs false
section
variable {P : Program} {w : World} {base g n c i : Nat} {A : Option Addr} {e dT sT ty : TypeId} {sz bytes : Nat} {xs : List Value}
theorem own_take (h : w.ownsRow base e sz (.slice A n c) n xs) (hi : i ≤ n) : w.ownsRow base e sz (.slice A i c) i (xs.take (i * sz)) := by
  have hm : i * sz ≤ n * sz := Nat.mul_le_mul_right _ hi
  refine ⟨by rw [List.length_take, h.1]; omega, ?_⟩
  rcases h.2 with ⟨hv, h0⟩ | ⟨g, cap, cur, hv, hbg, hh, hcap, hm2, hs, ht⟩
  · injection hv with h1 h2 h3
    subst h1 h3
    obtain rfl : i = 0 := by omega
    exact .inl ⟨rfl, rfl⟩
  · injection hv with h1 h2 h3
    subst h1 h3
    refine .inr ⟨g, _, cur, rfl, hbg, hh, by omega, hm2, hs, ?_⟩
    rw [← ht, List.take_take, Nat.min_eq_left hm]
theorem own_room (h : w.ownsRow base e sz (.slice A n c) n xs) (hr : n + i ≤ c) : ∃ ys : List Value, ys.length = i * sz ∧ w.ownsRow base e sz (.slice A (n + i) c) (n + i) (xs ++ ys) := by
  rcases h.2 with ⟨hv, h0⟩ | ⟨g, cap, cur, hv, hbg, hh, hcap, hm2, hs, ht⟩
  · injection hv with h1 h2 h3
    subst h1 h3
    obtain rfl : n = 0 := h0
    obtain rfl : i = 0 := by omega
    exact ⟨[], by simp, by simpa using h⟩
  · injection hv with h1 h2 h3
    subst h1 h3
    have hx := h.1
    have hm : (n + i) * sz ≤ c * sz := Nat.mul_le_mul_right _ hr
    have hl : (cur.toList.take ((n + i) * sz)).length = (n + i) * sz := by rw [List.length_take, Array.length_toList, hs, Nat.min_eq_left hm]
    have e1 : cur.toList.take ((n + i) * sz) = xs ++ (cur.toList.drop (n * sz)).take (i * sz) := by rw [Nat.add_mul, List.take_add, ht]
    refine ⟨(cur.toList.drop (n * sz)).take (i * sz), ?_, ?_⟩
    · have := congrArg List.length e1
      rw [hl, List.length_append, hx, Nat.add_mul] at this
      omega
    · rw [← e1]
      exact ⟨hl, .inr ⟨g, _, cur, rfl, hbg, hh, hr, hm2, hs, rfl⟩⟩
/-- What a store over the cells from o on leaves. -/
theorem own_splice {cs : List Value} {o : Nat} {cur : Array Value} (hh : w.heap[g]? = some (.cells cur e (0, 0))) (hbg : base ≤ g) (hcap : n ≤ c) (hm2 : c ≤ maxLen) (hs : cur.size = c * sz) (ht : cur.toList.take (n * sz) = xs) (hx : xs.length = n * sz) (ho : o + cs.length ≤ n * sz) :
    (w.setRow g (cur.toList.take o ++ cs ++ cur.toList.drop (o + cs.length)).toArray).ownsRow base e sz (.slice (some ⟨g, 0, none⟩) n c) n (splice xs o cs) := by
  have hmul : n * sz ≤ c * sz := Nat.mul_le_mul_right _ hcap
  have e1 : (cur.toList.take o ++ cs ++ cur.toList.drop (o + cs.length)) = splice cur.toList o cs := by unfold splice; rw [List.append_assoc]
  have hl : (splice cur.toList o cs).length = c * sz := by rw [length_splice _ _ _ (by rw [Array.length_toList (xs := cur)]; omega), Array.length_toList, hs]
  refine ⟨by rw [length_splice _ _ _ (by omega), hx], .inr ⟨g, c, _, rfl, hbg, setRow_heap w g cur _ e _ hh, hcap, hm2, by rw [e1, List.size_toArray, hl], ?_⟩⟩
  rw [e1, List.toList_toArray]
  apply List.ext_getElem?
  intro k
  rw [List.getElem?_take, splice_get _ _ _ _ (by rw [Array.length_toList (xs := cur)]; omega), splice_get _ _ _ _ (by omega), ← ht]
  rw [List.getElem?_take]
  split
  · rfl
  · split
    · omega
    · rfl
/-- 'copy(dst, src)' into a row of the call's own. -/
theorem run_copy_own (HE : ElemT P dT e sz bytes) (h : w.ownsRow base e sz (.slice (some ⟨g, 0, none⟩) n c) n xs) {o dl dc sl sc k : Nat} {ad : Addr} {cs : List Value} (hk : Nat.min sl dl = k) (hcs : cs.length = k * sz) (ho : o + cs.length ≤ n * sz)
    (hsrc : ∀ j v, cs[j]? = some v → w.cell? (ad.add j) = some v) (h1 : ∀ v ∈ cs, v.oneCell' = true) :
    ∃ w', (Builtin.copy_ #[dT, sT] ty #[.slice (some ⟨g, o, none⟩) dl dc, .slice (some ad) sl sc]).run P w = .ok (goInt k) w' ∧ w'.ownsRow base e sz (.slice (some ⟨g, 0, none⟩) n c) n (splice xs o cs) ∧ w.grownBy w' (some g) ∧ w'.heap.size = w.heap.size := by
  obtain ⟨i, z, hi, hz, hsz, hby, hzs, h0⟩ := HE.hi
  rcases h.2 with ⟨hv, _⟩ | ⟨g', cap, cur, hv, hbg, hh, hcap, hm2, hs, ht⟩
  · cases hv
  · injection hv with hv1 hv2 hv3
    injection hv1 with hv1
    injection hv1 with hv1
    subst hv1 hv3
    have hl := run_loadCells_list (P := P) w ad cs hsrc
    have hmul : n * sz ≤ c * sz := Nat.mul_le_mul_right _ hcap
    have hst := run_storeCells_at P g o e cs 0 cur w hh (by simp; omega) h1
    simp only [Nat.add_zero] at hst
    refine ⟨_, ?_, own_splice hh hbg hcap hm2 hs ht h.1 ho, ⟨rfl, rfl, rfl, by simp, fun k _ hk => setRow_other w g k _ (fun e => hk (by simp [e]))⟩, by simp⟩
    subst hsz
    simp [Builtin.copy_, run_underlying HE.ht, Builtin.lenOf, Builtin.firstCells, sizeOf, typeInfo, hi, hk, ← hcs, hl, hst]
/-- 'append(s, src...)' where there is room. -/
theorem run_app_room (HE : ElemT P dT e sz bytes) (h : w.ownsRow base e sz (.slice (some ⟨g, 0, none⟩) n c) n xs) {m c2 : Nat} {ad : Addr} {cs : List Value} (hcs : cs.length = m * sz) (hr : n + m ≤ c)
    (hsrc : ∀ j v, cs[j]? = some v → w.cell? (ad.add j) = some v) (h1 : ∀ v ∈ cs, v.oneCell' = true) :
    ∃ w', (Builtin.append_ #[dT, dT] ty #[.slice (some ⟨g, 0, none⟩) n c, .slice (some ad) m c2]).run P w = .ok (.slice (some ⟨g, 0, none⟩) (n + m) c) w' ∧ w'.ownsRow base e sz (.slice (some ⟨g, 0, none⟩) (n + m) c) (n + m) (xs ++ cs) ∧ w.grownBy w' (some g) ∧ w'.heap.size = w.heap.size := by
  obtain ⟨i, z, hi, hz, hsz, hby, hzs, h0⟩ := HE.hi
  subst hsz
  rcases h.2 with ⟨hv, _⟩ | ⟨g', cap, cur, hv, hbg, hh, hcap, hm2, hs, ht⟩
  · cases hv
  · injection hv with hv1 hv2 hv3
    injection hv1 with hv1
    injection hv1 with hv1
    subst hv1 hv3
    have hmul : (n + m) * i.size ≤ c * i.size := Nat.mul_le_mul_right _ hr
    rw [Nat.add_mul] at hmul
    have hrun := run_append_room (P := P) w dT ty e i HE.ht hi g n c cur hh ad m c2 cs hcs hsrc h1 hr (by omega)
    refine ⟨_, hrun, ⟨by rw [List.length_append, h.1, hcs, Nat.add_mul], .inr ⟨g, c, _, rfl, hbg, setRow_heap w g cur _ e _ hh, hr, hm2, ?_, ?_⟩⟩, ⟨rfl, rfl, rfl, by simp, fun k _ hk => setRow_other w g k _ (fun e => hk (by simp [e]))⟩, by simp⟩
    · simp only [List.size_toArray, List.length_append, List.length_take, List.length_drop, Array.length_toList]
      omega
    · rw [ht, Nat.add_mul, ← h.1, ← hcs, List.toList_toArray, ← List.length_append]
      exact List.take_left
/-- 'clear(s[n:n+m])' behind a row's end. -/
theorem run_clear_own (HE : ElemT P dT e sz bytes) {zs : List Value} (hzz : (P.info? e).map (·.zero) = some (some (.agg zs.toArray))) (hz1 : ∀ v ∈ zs, v.oneCell' = true) (h : w.ownsRow base e sz (.slice (some ⟨g, 0, none⟩) n c) n xs) {m c2 : Nat} (hr : n + m ≤ c) :
    ∃ w', (Builtin.clear_ #[dT] ty #[.slice (some ⟨g, n * sz, none⟩) m c2]).run P w = .ok (.tuple #[]) w' ∧ w'.ownsRow base e sz (.slice (some ⟨g, 0, none⟩) n c) n xs ∧ w.grownBy w' (some g) ∧ w'.heap.size = w.heap.size := by
  obtain ⟨i, z, hi, hz, hsz, hby, hzs, h0⟩ := HE.hi
  have hza : z = .agg zs.toArray := by
    rw [hi] at hzz
    simp only [Option.map_some, Option.some.injEq, hz] at hzz
    exact hzz
  rcases h.2 with ⟨hv, _⟩ | ⟨g', cap, cur, hv, hbg, hh, hcap, hm2, hs, ht⟩
  · cases hv
  · injection hv with hv1 hv2 hv3
    injection hv1 with hv1
    injection hv1 with hv1
    subst hv1 hv3
    cases m with
    | zero => exact ⟨w, by simp [Builtin.clear_, run_underlying HE.ht], h, World.grownBy.refl w _, rfl⟩
    | succ m =>
      have hmul : (n + (m + 1)) * sz ≤ c * sz := Nat.mul_le_mul_right _ hr
      rw [Nat.add_mul] at hmul
      obtain ⟨ys, hys⟩ : ∃ ys, ys = (Builtin.zeroCells zs.toArray (m + 1)).toList := ⟨_, rfl⟩
      have hzl : zs.length = sz := by rw [hza] at hzs; simpa [Value.cells] using hzs
      have hyl : ys.length = (m + 1) * sz := by rw [hys]; simp [Builtin.zeroCells, hzl]
      have hy1 : ∀ v ∈ ys, v.oneCell' = true := by
        intro v hv
        rw [hys] at hv
        simp only [Builtin.zeroCells, Array.toList_map, Array.toList_range, List.mem_map, List.mem_range, List.size_toArray] at hv
        obtain ⟨q, hq, rfl⟩ := hv
        have hlt : q % zs.length < zs.length := Nat.mod_lt _ (by omega)
        have : zs.toArray[q % zs.length]! = zs[q % zs.length] := by simp [hlt]
        rw [this]
        exact hz1 _ (List.getElem_mem hlt)
      have hst := run_storeCells_at P g (n * sz) e ys 0 cur w hh (by simp; omega) hy1
      simp only [Nat.add_zero] at hst
      refine ⟨w.setRow g (cur.toList.take (n * sz) ++ ys ++ cur.toList.drop (n * sz + ys.length)).toArray, ?_, ⟨h.1, .inr ⟨g, c, _, rfl, hbg, setRow_heap w g cur _ e _ hh, hcap, hm2, ?_, ?_⟩⟩, ⟨rfl, rfl, rfl, by simp, fun k _ hk => setRow_other w g k _ (fun e => hk (by simp [e]))⟩, by simp⟩
      · have hzv : ∀ w, (zeroValue e).run P w = .ok (.agg zs.toArray) w := fun w => by simp [zeroValue, typeInfo, hi, hz, hza]
        simp [Builtin.clear_, run_underlying HE.ht, hzv, Value.cells, ← hys, hst]
      · simp only [List.size_toArray, List.length_append, List.length_take, List.length_drop, Array.length_toList]
        omega
      · rw [List.toList_toArray, List.append_assoc, List.take_append_of_le_length (by rw [List.length_take, Array.length_toList]; omega), List.take_take, Nat.min_self]
        exact ht
end
section
variable {P : Program} {ops : Array Oper} {rest : List Oper} {o : Oper} {a : Act} {w : World} {Q : Exit → Act → World → Prop}
end
theorem wpl_clear_run {P : Program} {w : World} {ops : Array Oper} {rest : List Oper} {o : Oper} {a : Act} {Q : Exit → Act → World → Prop} (hgd : o.guard = none) {d : Operand} {t : TypeId}
    (ho : o.op = .call { callee := .builtin .clear, args := #[d], argTypes := #[t] }) {v : Value} (hd : a.eval d = v) {v' : Value} {w' : World}
    (hr : (Builtin.clear_ #[t] o.type #[v]).run P w = .ok v' w') (h : wpList P ops Q rest (a.put o.dst v') w') : wpList P ops Q (o :: rest) a w := by
  refine wpList_plain hgd fun K hK => ?_
  unfold Oper.wp execOp
  simp only [ho, resolve, invoke, builtin, Sem.run_bind, Sem.run_pure, Result.andThen_ok, List.map_toArray, List.map_cons, List.map_nil, hd, hr]
  exact hK _ _ h
theorem wpl_copy_run {P : Program} {w : World} {ops : Array Oper} {rest : List Oper} {o : Oper} {a : Act} {Q : Exit → Act → World → Prop} (hgd : o.guard = none) {d s : Operand} {t t' : TypeId}
    (ho : o.op = .call { callee := .builtin .copy, args := #[d, s], argTypes := #[t, t'] }) {v u : Value} (hd : a.eval d = v) (hs : a.eval s = u) {v' : Value} {w' : World}
    (hr : (Builtin.copy_ #[t, t'] o.type #[v, u]).run P w = .ok v' w') (h : wpList P ops Q rest (a.put o.dst v') w') : wpList P ops Q (o :: rest) a w := by
  refine wpList_plain hgd fun K hK => ?_
  unfold Oper.wp execOp
  simp only [ho, resolve, invoke, builtin, Sem.run_bind, Sem.run_pure, Result.andThen_ok, List.map_toArray, List.map_cons, List.map_nil, hd, hs, hr]
  exact hK _ _ h
theorem own_of_block {w w' : World} {base n c : Nat} {A : Option Addr} {e : TypeId} {sz : Nat} {xs : List Value} (h : w.ownsRow base e sz (.slice A n c) n xs) (k : ∀ b, A.map Addr.block = some b → w'.heap[b]? = w.heap[b]?) : w'.ownsRow base e sz (.slice A n c) n xs := by
  refine ⟨h.1, ?_⟩
  rcases h.2 with h2 | ⟨g, cap, cur, hv, hg, hh, r⟩
  · exact .inl h2
  · refine .inr ⟨g, cap, cur, hv, hg, ?_, r⟩
    injection hv with hA
    rw [k g (by rw [hA]; rfl)]; exact hh
end Go.Proofs.Ytolbbhbfbpiljaa

/- A region that draws its order, with a row of writing operations in one forced order among operations that read: one walk in the order of the text serves every order. No program in sight.
   'C k' is the class of worlds behind k of the writing operations M; 'R' bounds, for each operation, the phases in which it can come up; 'phaseB' has the kernel check both against the edges. -/
import Derived.Test.YtphmefhnffoafaaDoorCertFormsT1
import Derived.Deep.Quiet
import Derived.DeepKeys4
import Derived.MapKept
import Derived.Maps.Own
import Derived.OpenShut
/- A region that draws its order, with a row of writing operations in one forced order among operations that read: one walk in the order of the text serves every order. No program in sight.
   'C k' is the class of worlds behind k of the writing operations M; 'R' bounds, for each operation, the phases in which it can come up; 'phaseB' has the kernel check both against the edges. -/
namespace Go.Proofs.YtphmefhnffoafaaDoor
open Go.RowKit
section
variable {P : Program} {ops : Array Oper} {md : Region.Mode}
theorem getD_ne {listed : Array Bool} {i j : Nat} (d : Bool) (h : i ≠ j) : (listed.setIfInBounds i true).getD j d = listed.getD j d := by
  simp [Array.getD_eq_getD_getElem?, Array.getElem?_setIfInBounds_ne h]
theorem getD_tf {listed : Array Bool} {i : Nat} (h : listed.getD i true = false) : listed.getD i false = false := by
  rcases Nat.lt_or_ge i listed.size with h1 | h1
  · simp [Array.getD_eq_getD_getElem?, h1] at h ⊢; exact h
  · simp [Array.getD_eq_getD_getElem?, Array.getElem?_eq_none h1]
/-! ### Who waits for whom -/
def ancs (md : Region.Mode) (ops : Array Oper) : Nat → Nat → List Nat
  | 0, _ => []
  | f + 1, i => (((ops[i]?).map fun o => (o.after.toList.filter fun e => Region.binds md e).map (·.on)).getD []).flatMap fun j => j :: ancs md ops f j
def PClosed (md : Region.Mode) (ops : Array Oper) (listed : Array Bool) : Prop :=
  ∀ j oj, ops[j]? = some oj → listed.getD j false = true → ∀ e ∈ oj.after, Region.binds md e = true → listed.getD e.on false = true
theorem ancs_listed {listed : Array Bool} (hc : PClosed md ops listed) : ∀ (f i : Nat), (∀ oi, ops[i]? = some oi → ∀ e ∈ oi.after, Region.binds md e = true → listed.getD e.on false = true) → ∀ j ∈ ancs md ops f i, listed.getD j false = true
  | 0, _, _, j, hj => by simp [ancs] at hj
  | f + 1, i, h, j, hj => by
    unfold ancs at hj
    obtain ⟨x, hx, hj⟩ := List.mem_flatMap.1 hj
    cases ho : ops[i]? with
    | none => rw [ho] at hx; simp at hx
    | some oi =>
      rw [ho] at hx
      obtain ⟨e, he, rfl⟩ := List.mem_map.1 hx
      obtain ⟨he1, he2⟩ := List.mem_filter.1 he
      have hl := h oi ho e (by simpa using he1) he2
      rcases List.mem_cons.1 hj with rfl | hj
      · exact hl
      · exact ancs_listed hc f e.on (fun oj hoj => hc e.on oj hoj hl) j hj
theorem closed_set {listed : Array Bool} {i : Nat} (hc : PClosed md ops listed) (hi : i ∈ Region.ready md ops listed) : PClosed md ops (listed.setIfInBounds i true) := by
  intro j oj hoj hj e he hb
  by_cases hji : i = j
  · subst hji
    obtain ⟨_, o, ho, hall⟩ := mem_ready.1 hi
    rw [ho] at hoj; cases hoj
    exact getD_set_true (hall e he hb)
  · rw [getD_ne false hji] at hj
    exact getD_set_true (hc j oj hoj hj e he hb)
end
section
variable {P : Program} {ops : Array Oper} {md : Region.Mode} {C : Nat → World → Prop} {M : List Nat} {R : List (Nat × Nat)}
/-! ### The steps of the walk -/
variable {Q : Act → Prop} {o : Oper} {rest : List Oper} {i : Nat} {a : Act}
end
section
variable {w0 : World} {T : TypeId} {zs cs : List Value}
end
/-- Nothing that was there has turned but for the blocks of l. -/
structure Touched (l : List Nat) (w w' : World) : Prop where
  os : w'.os = w.os
  tape : w'.tape = w.tape
  output : w'.output = w.output
  size : w.heap.size ≤ w'.heap.size
  block : ∀ k, k < w.heap.size → k ∉ l → w'.heap[k]? = w.heap[k]?
section
variable {l : List Nat} {w w1 w2 : World}
end
theorem wpl_wanted {P : Program} {ops : Array Oper} {rest : List Oper} {o : Oper} {a : Act} {w : World} {Q : Exit → Act → World → Prop} (hw : Region.wanted o (yielded ops a.tmps) = true)
    (h : ∀ K : Act → World → Prop, (∀ a w, wpList P ops Q rest a w → K a w) → o.wp P a w K Q) : wpList P ops Q (o :: rest) a w := by
  unfold wpList
  rw [if_pos hw]
  exact .inl (h _ fun _ _ h => h)
/-- A whole block read, under a guard that says yes. -/
theorem wpl_loadw {P : Program} {ops : Array Oper} {rest : List Oper} {o : Oper} {a : Act} {w : World} {Q : Exit → Act → World → Prop} (hw : Region.wanted o (yielded ops a.tmps) = true) {T : TypeId} {x : Operand} (ho : o.op = .load T x) {n : Nat} (hT : RowT P T n) {g : Nat} {t : TypeId} {cs : List Value} (hb : Blk w g t cs) (hx : a.eval x = .pointer (some ⟨g, 0, none⟩)) (hn : cs.length = n)
    (h : wpList P ops Q rest (a.put o.dst (.agg cs.toArray)) w) : wpList P ops Q (o :: rest) a w := by
  refine wpl_wanted hw fun K hK => ?_
  obtain ⟨d, hu, hd, hi⟩ := hT
  have hrun := run_loadVar_row (P := P) w g t T cs.toArray (0, 0) d hb hu (by revert hd; cases d <;> simp) (by rw [hi]; simp [hn])
  unfold Oper.wp execOp
  simp only [ho, hx, Instr.loadAt, Instr.sureAddr, Sem.run_bind, Sem.run_pure, Result.andThen_ok, hrun]
  exact hK _ _ h
theorem ret_cell_tmp {P : Program} {fn : Func} {a : Act} {w : World} {p q : Tmp} {ty : TypeId} (h : fn.results = #[.cell p ty, .tmp q]) {n : Nat} (hT : RowT P ty n) {g : Nat} {t : TypeId} {cs : List Value} (hb : Blk w g t cs) (hp : a.tmps.getD p undef = .pointer (some ⟨g, 0, none⟩)) (hn : cs.length = n)
    {v : Value} (hq : a.tmps.getD q undef = v) (hd : a.defers = [])
    {R : Ending → World → Prop} (hR : R (.returned (.tuple #[.agg cs.toArray, v])) w) : bodyPost P fn R .ret a w := by
  obtain ⟨d, hu, hdd, hi⟩ := hT
  refine bodyPost_ret (v := .tuple #[.agg cs.toArray, v]) ?_ hd hR
  have hp' : a.tmps[p]?.getD undef = .pointer (some ⟨g, 0, none⟩) := by simpa using hp
  have hq' : a.tmps[q]?.getD undef = v := by simpa using hq
  have hload := run_loadVar_row (P := P) w g t ty cs.toArray (0, 0) d hb hu (by revert hdd; cases d <;> simp) (by rw [hi]; simp [hn])
  simp [results, h, hp', hq', asAddr, hload]
end Go.Proofs.YtphmefhnffoafaaDoor
/- Maps whose keys are structs or arrays: what lookup, assignment and delete do to the list of their pairs. No program in sight. -/
namespace Go.Proofs.YtphmefhnffoafaaDoor
set_option linter.unusedSimpArgs false
set_option linter.unusedVariables false
open Go.WideMaps (KeyLaw)
structure MapOK (P : Program) (k : TypeId) (es : Array MapEntry) (clock : Nat) : Prop where
  keyed : ∀ e ∈ es.toList, ∃ l, keyOf P k e.key = some l
  young : ∀ e ∈ es.toList, e.born < clock
  born : (es.toList.map (·.born)).Nodup
  keys : (es.toList.map (·.key)).Nodup
section
variable {P : Program} {w : World} {t k e : TypeId} {es : Array MapEntry} {clock b : Nat} {x : Value} {lx : Lit}
end
end Go.Proofs.YtphmefhnffoafaaDoor
/- Deep keys and deep equality: structs of integers and byte arrays. No program in sight. -/
namespace Go.Proofs.YtphmefhnffoafaaDoor
open Go.RowKit
open Go.WideMaps (KeyLaw)
set_option linter.unusedVariables false
set_option linter.unusedSimpArgs false
section
variable {P : Program}
theorem kl_int {t : TypeId} {k : IntKind} (ht : P.underlying t = some (.int k)) (d : Nat) (z : Int) (h : (Lit.int k z).wf = true) : ∃ l, P.keyLits (d + 1) t [.int k z] = some l := by
  unfold Program.keyLits
  rw [ht]
  refine ⟨[.int k z], ?_⟩
  show (if k = k ∧ (Lit.int k z).wf = true then some [Lit.int k z] else none) = _
  rw [if_pos ⟨rfl, h⟩]
theorem mapM_ex {α β : Type} (f : α → Option β) : ∀ (l : List α), (∀ x ∈ l, ∃ y, f x = some y) → ∃ r, l.mapM f = some r
  | [], _ => ⟨[], rfl⟩
  | x :: l, h => by
    obtain ⟨y, hy⟩ := h x (by simp)
    obtain ⟨r, hr⟩ := mapM_ex f l (fun z hz => h z (by simp [hz]))
    exact ⟨y :: r, by rw [List.mapM_cons, hy, hr]; rfl⟩
theorem kl_struct {t : TypeId} {fs : Array Field} (ht : P.underlying t = some (.struct fs)) (d : Nat) (cs : List Value) (hl : cs.length = P.cellsOf t) (hn : fs.all (·.name != "_") = true)
    (h : ∀ f ∈ fs.toList, ∃ l, P.keyLits d f.type ((cs.drop f.offset).take (P.cellsOf f.type)) = some l) : ∃ l, P.keyLits (d + 1) t cs = some l := by
  unfold Program.keyLits
  rw [ht]
  obtain ⟨r, hr⟩ := mapM_ex _ fs.toList h
  simp only
  rw [if_pos ⟨hl, hn⟩, hr]
  exact ⟨_, rfl⟩
theorem kl_bytes {t e : TypeId} {n : Nat} (ht : P.underlying t = some (.array n e)) (he : P.underlying e = some (.int .u8)) (hce : P.cellsOf e = 1) (hct : P.cellsOf t = n) (d : Nat) (ds : List UInt8) (h : ds.length = n) : ∃ l, P.keyLits (d + 2) t (ds.map B) = some l := by
  unfold Program.keyLits
  rw [ht]
  simp only [List.length_map, h, hct, if_true, hce, Nat.mul_one]
  obtain ⟨r, hr⟩ := mapM_ex (fun i => P.keyLits (d + 1) e (List.take 1 (List.drop i (ds.map B)))) (List.range n) (fun i hi => by
    have hi : i < n := by simpa using hi
    have e1 : List.take 1 (List.drop i (ds.map B)) = [B (ds[i]?.getD 0)] := by
      rw [List.take_one, List.head?_drop, List.getElem?_map, List.getElem?_eq_getElem (by omega)]; rfl
    rw [e1]
    exact kl_int he d (b8 (ds[i]?.getD 0)) (by have := b8_range (ds[i]?.getD 0); simp [Lit.wf, IntKind.min, IntKind.max, IntKind.signed, IntKind.bits]; omega))
  rw [hr]
  exact ⟨_, rfl⟩
theorem keyOf_wide {t : TypeId} (hw : (match P.underlying t with | some (.array _ _) | some (.struct _) => true | _ => false) = true) (hk : P.keyType t = true) (cs : List Value) (hf : (Value.agg cs.toArray).formed P t = true) :
    keyOf P t (.agg cs.toArray) = (P.keyLits (P.types.size + 1) t cs).map fun ls => .string (keyBytes ls) := by
  unfold keyOf
  revert hw
  cases hu : P.underlying t with
  | none => intro h; cases h
  | some d =>
    cases d
    case array => intro _; simp [hk, hf, Value.cells]
    case struct => intro _; simp [hk, hf, Value.cells]
    all_goals (intro h; cases h)
theorem formed_wide {t : TypeId} (hw : (match P.underlying t with | some (.array _ _) | some (.struct _) => true | _ => false) = true) (cs : List Value) (hl : cs.length = P.cellsOf t) : (Value.agg cs.toArray).formed P t = true := by
  unfold Value.formed
  revert hw
  cases hu : P.underlying t with
  | none => simp
  | some d => cases d <;> simp [hl]
/-- From the cells' literals to the key. -/
theorem keyOf_ex {t : TypeId} (hw : (match P.underlying t with | some (.array _ _) | some (.struct _) => true | _ => false) = true) (hk : P.keyType t = true) (cs : List Value) (hl : cs.length = P.cellsOf t)
    (h : ∃ l, P.keyLits (P.types.size + 1) t cs = some l) : ∃ l, keyOf P t (.agg cs.toArray) = some l := by
  obtain ⟨l, hl2⟩ := h
  rw [keyOf_wide hw hk cs (formed_wide hw cs hl), hl2]
  exact ⟨_, rfl⟩
/-- '==' on two values of such a type. -/
theorem eql_deep {t : TypeId} (K : KeyLaw P t) {m : Nat} (hm : m ≤ 10000) (hd : P.keyTypeAt m t = true) (hw : (match P.underlying t with | some (.array _ _) | some (.struct _) => true | _ => false) = true) (hk : P.keyType t = true)
    (x y : List Value) (hx : x.length = P.cellsOf t) (hy : y.length = P.cellsOf t) (kx : ∃ l, P.keyLits (P.types.size + 1) t x = some l) (ky : ∃ l, P.keyLits (P.types.size + 1) t y = some l) :
    ∃ r : Bool, (r = true ↔ x = y) ∧ ∀ w, (Op.equalIn 10000 t (.agg x.toArray) (.agg y.toArray)).run P w = .ok r w := by
  obtain ⟨lx, hlx⟩ := keyOf_ex hw hk x hx kx
  obtain ⟨ly, hly⟩ := keyOf_ex hw hk y hy ky
  have hf := fun cs hl => formed_wide (P := P) (t := t) hw cs hl
  obtain ⟨l1, e1⟩ := kx
  obtain ⟨l2, e2⟩ := ky
  have hall : ∀ w, ∃ r : Bool, (Op.equalIn 10000 t (.agg x.toArray) (.agg y.toArray)).run P w = .ok r w ∧ (r = true ↔ l1 = l2) := by
    intro w
    have := run_equalIn_deep (P := P) (10000 - m) m t hd w _ _ (.agg x.toArray) (.agg y.toArray) l1 l2 (hf x hx) (hf y hy) (by simpa [Value.cells] using e1) (by simpa [Value.cells] using e2)
    rwa [show 10000 - m + m = 10000 by omega] at this
  have hxy : l1 = l2 ↔ x = y := by
    constructor
    · intro h
      subst h
      have k1 : keyOf P t (.agg x.toArray) = keyOf P t (.agg y.toArray) := by
        rw [keyOf_wide hw hk x (hf x hx), keyOf_wide hw hk y (hf y hy), e1, e2]
      have := K.inj hlx (k1 ▸ hlx)
      simpa using this
    · intro h
      subst h
      rw [e1] at e2; cases e2; rfl
  by_cases h : x = y
  · refine ⟨true, by simp [h], fun w => ?_⟩
    obtain ⟨r, h1, h2⟩ := hall w
    have : r = true := h2.2 (hxy.2 h)
    rw [h1, this]
  · refine ⟨false, by simp [h], fun w => ?_⟩
    obtain ⟨r, h1, h2⟩ := hall w
    have : r = false := by
      cases r with
      | false => rfl
      | true => exact absurd (hxy.1 (h2.1 rfl)) h
    rw [h1, this]
end
end Go.Proofs.YtphmefhnffoafaaDoor

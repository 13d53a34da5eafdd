/- Deep keys and deep equality: structs of integers and byte arrays. No program in sight. -/
import Derived.Test.YtolbbhbfbpiljaaWords
import Derived.Test.YtolbbhbfbpiljaaMap
import Derived.OpenShut
namespace Go.Proofs.Ytolbbhbfbpiljaa
open Go.RowKit
open Go.WideMaps (KeyLaw)
set_option linter.unusedVariables false
set_option linter.unusedSimpArgs false
section
variable {P : Program}

theorem kl_int {t : TypeId} {k : IntKind} (ht : P.underlying t = some (.int k)) (d : Nat) (z : Int) (h : (Lit.int k z).wf = true) : ∃ l, P.keyLits (d + 1) t [.int k z] = some l := by
  unfold Program.keyLits
  rw [ht]
  refine ⟨[.int k z], ?_⟩
  show (if k = k ∧ (Lit.int k z).wf = true then some [Lit.int k z] else none) = _
  rw [if_pos ⟨rfl, h⟩]
theorem mapM_ex {α β : Type} (f : α → Option β) : ∀ (l : List α), (∀ x ∈ l, ∃ y, f x = some y) → ∃ r, l.mapM f = some r
  | [], _ => ⟨[], rfl⟩
  | x :: l, h => by
    obtain ⟨y, hy⟩ := h x (by simp)
    obtain ⟨r, hr⟩ := mapM_ex f l (fun z hz => h z (by simp [hz]))
    exact ⟨y :: r, by rw [List.mapM_cons, hy, hr]; rfl⟩
theorem kl_struct {t : TypeId} {fs : Array Field} (ht : P.underlying t = some (.struct fs)) (d : Nat) (cs : List Value) (hl : cs.length = P.cellsOf t) (hn : fs.all (·.name != "_") = true)
    (h : ∀ f ∈ fs.toList, ∃ l, P.keyLits d f.type ((cs.drop f.offset).take (P.cellsOf f.type)) = some l) : ∃ l, P.keyLits (d + 1) t cs = some l := by
  unfold Program.keyLits
  rw [ht]
  obtain ⟨r, hr⟩ := mapM_ex _ fs.toList h
  simp only
  rw [if_pos ⟨hl, hn⟩, hr]
  exact ⟨_, rfl⟩
theorem kl_bytes {t e : TypeId} {n : Nat} (ht : P.underlying t = some (.array n e)) (he : P.underlying e = some (.int .u8)) (hce : P.cellsOf e = 1) (hct : P.cellsOf t = n) (d : Nat) (ds : List UInt8) (h : ds.length = n) : ∃ l, P.keyLits (d + 2) t (ds.map B) = some l := by
  unfold Program.keyLits
  rw [ht]
  simp only [List.length_map, h, hct, if_true, hce, Nat.mul_one]
  obtain ⟨r, hr⟩ := mapM_ex (fun i => P.keyLits (d + 1) e (List.take 1 (List.drop i (ds.map B)))) (List.range n) (fun i hi => by
    have hi : i < n := by simpa using hi
    have e1 : List.take 1 (List.drop i (ds.map B)) = [B (ds[i]?.getD 0)] := by
      rw [List.take_one, List.head?_drop, List.getElem?_map, List.getElem?_eq_getElem (by omega)]; rfl
    rw [e1]
    exact kl_int he d (b8 (ds[i]?.getD 0)) (by have := b8_range (ds[i]?.getD 0); simp [Lit.wf, IntKind.min, IntKind.max, IntKind.signed, IntKind.bits]; omega))
  rw [hr]
  exact ⟨_, rfl⟩
theorem keyOf_wide {t : TypeId} (hw : (match P.underlying t with | some (.array _ _) | some (.struct _) => true | _ => false) = true) (hk : P.keyType t = true) (cs : List Value) (hf : (Value.agg cs.toArray).formed P t = true) :
    keyOf P t (.agg cs.toArray) = (P.keyLits (P.types.size + 1) t cs).map fun ls => .string (keyBytes ls) := by
  unfold keyOf
  revert hw
  cases hu : P.underlying t with
  | none => intro h; cases h
  | some d =>
    cases d
    case array => intro _; simp [hk, hf, Value.cells]
    case struct => intro _; simp [hk, hf, Value.cells]
    all_goals (intro h; cases h)
theorem formed_wide {t : TypeId} (hw : (match P.underlying t with | some (.array _ _) | some (.struct _) => true | _ => false) = true) (cs : List Value) (hl : cs.length = P.cellsOf t) : (Value.agg cs.toArray).formed P t = true := by
  unfold Value.formed
  revert hw
  cases hu : P.underlying t with
  | none => simp
  | some d => cases d <;> simp [hl]
/-- From the cells' literals to the key. -/
theorem keyOf_ex {t : TypeId} (hw : (match P.underlying t with | some (.array _ _) | some (.struct _) => true | _ => false) = true) (hk : P.keyType t = true) (cs : List Value) (hl : cs.length = P.cellsOf t)
    (h : ∃ l, P.keyLits (P.types.size + 1) t cs = some l) : ∃ l, keyOf P t (.agg cs.toArray) = some l := by
  obtain ⟨l, hl2⟩ := h
  rw [keyOf_wide hw hk cs (formed_wide hw cs hl), hl2]
  exact ⟨_, rfl⟩
/-- '==' on two values of such a type. -/
theorem eql_deep {t : TypeId} (K : KeyLaw P t) {m : Nat} (hm : m ≤ 10000) (hd : P.keyTypeAt m t = true) (hw : (match P.underlying t with | some (.array _ _) | some (.struct _) => true | _ => false) = true) (hk : P.keyType t = true)
    (x y : List Value) (hx : x.length = P.cellsOf t) (hy : y.length = P.cellsOf t) (kx : ∃ l, P.keyLits (P.types.size + 1) t x = some l) (ky : ∃ l, P.keyLits (P.types.size + 1) t y = some l) :
    ∃ r : Bool, (r = true ↔ x = y) ∧ ∀ w, (Op.equalIn 10000 t (.agg x.toArray) (.agg y.toArray)).run P w = .ok r w := by
  obtain ⟨lx, hlx⟩ := keyOf_ex hw hk x hx kx
  obtain ⟨ly, hly⟩ := keyOf_ex hw hk y hy ky
  have hf := fun cs hl => formed_wide (P := P) (t := t) hw cs hl
  obtain ⟨l1, e1⟩ := kx
  obtain ⟨l2, e2⟩ := ky
  have hall : ∀ w, ∃ r : Bool, (Op.equalIn 10000 t (.agg x.toArray) (.agg y.toArray)).run P w = .ok r w ∧ (r = true ↔ l1 = l2) := by
    intro w
    have := run_equalIn_deep (P := P) (10000 - m) m t hd w _ _ (.agg x.toArray) (.agg y.toArray) l1 l2 (hf x hx) (hf y hy) (by simpa [Value.cells] using e1) (by simpa [Value.cells] using e2)
    rwa [show 10000 - m + m = 10000 by omega] at this
  have hxy : l1 = l2 ↔ x = y := by
    constructor
    · intro h
      subst h
      have k1 : keyOf P t (.agg x.toArray) = keyOf P t (.agg y.toArray) := by
        rw [keyOf_wide hw hk x (hf x hx), keyOf_wide hw hk y (hf y hy), e1, e2]
      have := K.inj hlx (k1 ▸ hlx)
      simpa using this
    · intro h
      subst h
      rw [e1] at e2; cases e2; rfl
  by_cases h : x = y
  · refine ⟨true, by simp [h], fun w => ?_⟩
    obtain ⟨r, h1, h2⟩ := hall w
    have : r = true := h2.2 (hxy.2 h)
    rw [h1, this]
  · refine ⟨false, by simp [h], fun w => ?_⟩
    obtain ⟨r, h1, h2⟩ := hall w
    have : r = false := by
      cases r with
      | false => rfl
      | true => exact absurd (hxy.1 (h2.1 rfl)) h
    rw [h1, this]
end
end Go.Proofs.Ytolbbhbfbpiljaa

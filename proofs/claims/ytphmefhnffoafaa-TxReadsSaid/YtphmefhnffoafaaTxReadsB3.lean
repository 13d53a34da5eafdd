/- Maps whose keys are structs or arrays: what lookup, assignment and delete do to the list of their pairs. No program in sight. -/
import Derived.Test.YtphmefhnffoafaaTxReadsB1
import Derived.DeepKeys4
import Derived.MapKept
import Derived.Maps.Own
import Derived.Test.YtphmefhnffoafaaTxReadsB2
import Derived.OpenShut
import Derived.Test.YtphmefhnffoafaaRows
import Derived.ChangeSame
import Derived.Deep.Slices
set_option linter.unusedSimpArgs false
/- Maps whose keys are structs or arrays: what lookup, assignment and delete do to the list of their pairs. No program in sight. -/
namespace Go.Proofs.Ytphmefhnffoafaa
set_option linter.unusedSimpArgs false
set_option linter.unusedVariables false
open Go.WideMaps (KeyLaw)

structure MapOK (P : Program) (k : TypeId) (es : Array MapEntry) (clock : Nat) : Prop where
  keyed : ∀ e ∈ es.toList, ∃ l, keyOf P k e.key = some l
  young : ∀ e ∈ es.toList, e.born < clock
  born : (es.toList.map (·.born)).Nodup
  keys : (es.toList.map (·.key)).Nodup
/-- The pairs, in the order in which they came. -/
def kvs (es : Array MapEntry) : List (Value × Value) := es.toList.map fun e => (e.key, e.val)
theorem kvs_length (es : Array MapEntry) : (kvs es).length = es.size := by simp [kvs]

/-- The world with another thing in block b. -/
def withBlk (w : World) (b : Nat) (o : Obj) : World := { w with heap := w.heap.setIfInBounds b o }
theorem withBlk_grown (w : World) (b : Nat) (o : Obj) : w.grownBy (withBlk w b o) (some b) :=
  ⟨rfl, rfl, rfl, by simp [withBlk], fun j _ hj => by
    unfold withBlk
    rw [Array.getElem?_setIfInBounds_ne (fun e => hj (by rw [e]))]⟩
theorem withBlk_heap {w : World} {b : Nat} {o o' : Obj} (h : w.heap[b]? = some o') : (withBlk w b o).heap[b]? = some o := by
  have hb := (Array.getElem?_eq_some_iff.1 h).1
  simp [withBlk, hb]
theorem withBlk_size (w : World) (b : Nat) (o : Obj) : (withBlk w b o).heap.size = w.heap.size := by simp [withBlk]
theorem withBlk_same {w : World} {b : Nat} {o : Obj} (h : w.heap[b]? = some o) : withBlk w b o = w := by
  unfold withBlk
  have : w.heap.setIfInBounds b o = w.heap := by
    apply Array.ext_getElem?
    intro i
    by_cases hi : b = i
    · subst hi
      have hb := (Array.getElem?_eq_some_iff.1 h).1
      rw [h]; simp [hb]
    · rw [Array.getElem?_setIfInBounds_ne hi]
  rw [this]

section
variable {P : Program} {w : World} {t k e : TypeId} {es : Array MapEntry} {clock b : Nat} {x : Value} {lx : Lit}

theorem MapOK.find (K : KeyLaw P k) (h : MapOK P k es clock) (hx : keyOf P k x = some lx) (w : World) :
    ((Instr.findKey k x es.toList).run P w = .ok none w ∧ ∀ p ∈ kvs es, p.1 ≠ x) ∨ ∃ j en, (Instr.findKey k x es.toList).run P w = .ok (some (j, en.val)) w ∧ es[j]? = some en ∧ en.key = x := by
  rcases K.find w hx es.toList h.keyed with ⟨h1, h2⟩ | ⟨j, en, h1, h2, h3⟩
  · left
    refine ⟨h1, fun p hp => ?_⟩
    obtain ⟨en, hen, rfl⟩ := List.mem_map.1 hp
    exact h2 en hen
  · exact .inr ⟨j, en, h1, by simpa using h2, h3⟩
theorem MapOK.find_no (K : KeyLaw P k) (h : MapOK P k es clock) (hx : keyOf P k x = some lx) (hno : ∀ p ∈ kvs es, p.1 ≠ x) (w : World) : (Instr.findKey k x es.toList).run P w = .ok none w := by
  rcases h.find K hx w with ⟨h1, _⟩ | ⟨j, en, _, h2, h3⟩
  · exact h1
  · exfalso
    have : en ∈ es.toList := by simpa using Array.mem_of_getElem? h2
    exact hno (en.key, en.val) (List.mem_map_of_mem this) h3
theorem nodup_get {α : Type} {l : List α} (h : l.Nodup) {i j : Nat} {x : α} (hi : l[i]? = some x) (hj : l[j]? = some x) : i = j := by
  obtain ⟨h1, h2⟩ := List.getElem?_eq_some_iff.1 hi
  obtain ⟨h3, h4⟩ := List.getElem?_eq_some_iff.1 hj
  have hp := List.pairwise_iff_getElem.1 h
  rcases Nat.lt_trichotomy i j with hij | hij | hij
  · exact absurd (h2.trans h4.symm) (hp i j h1 h3 hij)
  · exact hij
  · exact absurd (h4.trans h2.symm) (hp j i h3 h1 hij)
theorem map_erase {α β : Type} (f : α → β) : ∀ (l : List α) (j : Nat), (l.eraseIdx j).map f = (l.map f).eraseIdx j
  | [], _ => rfl
  | _ :: _, 0 => rfl
  | x :: l, j + 1 => by simp [map_erase f l j]
theorem MapOK.find_yes (K : KeyLaw P k) (h : MapOK P k es clock) (hx : keyOf P k x = some lx) {j : Nat} {en : MapEntry} (hj : es[j]? = some en) (hk : en.key = x) (w : World) : (Instr.findKey k x es.toList).run P w = .ok (some (j, en.val)) w := by
  rcases h.find K hx w with ⟨_, h2⟩ | ⟨j', en', h1, h2, h3⟩
  · exfalso
    have : en ∈ es.toList := by simpa using Array.mem_of_getElem? hj
    exact h2 (en.key, en.val) (List.mem_map_of_mem this) hk
  · have e1 : (es.toList.map (·.key))[j]? = some x := by rw [List.getElem?_map]; simp [hj, hk]
    have e2 : (es.toList.map (·.key))[j']? = some x := by rw [List.getElem?_map]; simp [h2, h3]
    have := nodup_get h.keys e1 e2
    subst this
    rw [hj] at h2
    cases h2
    exact h1

theorem run_lookup_no (K : KeyLaw P k) (ht : P.underlying t = some (.map k e)) (hb : w.heap[b]? = some (.map es clock)) (h : MapOK P k es clock) (hx : keyOf P k x = some lx) (hno : ∀ p ∈ kvs es, p.1 ≠ x)
    {z : Value} (hz : ∀ w, (zeroValue e).run P w = .ok z w) : (Instr.lookup t (.map (some b)) x true).run P w = .ok (.tuple #[z, .bool false]) w := by
  simp [Instr.lookup, run_underlying ht, MapKept.run_getObj_map hb, K.check w _ hx, h.find_no K hx hno w, hz]
theorem run_lookup_yes (K : KeyLaw P k) (ht : P.underlying t = some (.map k e)) (hb : w.heap[b]? = some (.map es clock)) (h : MapOK P k es clock) (hx : keyOf P k x = some lx) {j : Nat} {en : MapEntry} (hj : es[j]? = some en) (hk : en.key = x) :
    (Instr.lookup t (.map (some b)) x true).run P w = .ok (.tuple #[en.val, .bool true]) w := by
  simp [Instr.lookup, run_underlying ht, MapKept.run_getObj_map hb, K.check w _ hx, h.find_yes K hx hj hk w]

theorem run_mapEntry_no (K : KeyLaw P k) (ht : P.underlying t = some (.map k e)) (hb : w.heap[b]? = some (.map es clock)) (h : MapOK P k es clock) (hx : keyOf P k x = some lx) (hno : ∀ p ∈ kvs es, p.1 ≠ x)
    {z : Value} (hz : ∀ w, (zeroValue e).run P w = .ok z w) : (Instr.mapEntry t (.map (some b)) x).run P w = .ok (.tuple #[z, goInt clock]) (withBlk w b (.map (es.push { key := x, val := z, born := clock }) (clock + 1))) := by
  simp [Instr.mapEntry, run_underlying ht, MapKept.run_getObj_map hb, K.check w _ hx, h.find_no K hx hno w, hz, MapKept.run_setObj_map _ hb, withBlk, Result.andThen]
theorem run_mapUpdate_no (K : KeyLaw P k) (ht : P.underlying t = some (.map k e)) (hb : w.heap[b]? = some (.map es clock)) (h : MapOK P k es clock) (hx : keyOf P k x = some lx) (hno : ∀ p ∈ kvs es, p.1 ≠ x) (v : Value) :
    (Instr.mapUpdate t (.map (some b)) x v).run P w = .ok () (withBlk w b (.map (es.push { key := x, val := v, born := clock }) (clock + 1))) := by
  simp [Instr.mapUpdate, run_underlying ht, MapKept.run_getObj_map hb, K.check w _ hx, h.find_no K hx hno w, MapKept.run_setObj_map _ hb, withBlk, Result.andThen]
theorem modify_key {j : Nat} {en : MapEntry} (hj : es[j]? = some en) (hk : en.key = x) : es.modify j (fun e => { e with key := x }) = es := by
  apply Array.ext_getElem?
  intro i
  rw [Array.getElem?_modify]
  split
  · rename_i h; subst h; rw [hj]; simp [← hk]
  · rfl
theorem run_mapEntry_yes (K : KeyLaw P k) (ht : P.underlying t = some (.map k e)) (hb : w.heap[b]? = some (.map es clock)) (h : MapOK P k es clock) (hx : keyOf P k x = some lx) {j : Nat} {en : MapEntry} (hj : es[j]? = some en) (hk : en.key = x) :
    (Instr.mapEntry t (.map (some b)) x).run P w = .ok (.tuple #[en.val, goInt en.born]) w := by
  have hs := K.stays w hx
  have e1 : ((es[j]?).map (·.key)).getD x = x := by rw [hj]; simp [hk]
  have e3 := withBlk_same hb
  unfold withBlk at e3
  simp only [Instr.mapEntry, Sem.run_bind, run_underlying ht, MapKept.run_getObj_map hb, K.check w _ hx, h.find_yes K hx hj hk w, Result.andThen_ok, Result.andThen, e1, hs, modify_key hj hk, MapKept.run_setObj_map _ hb, e3]
  rw [show (Option.map (fun x => (x.born : Int)) es[j]?).getD 0 = (en.born : Int) by rw [hj]; rfl]
  rfl
theorem run_mapUpdate_yes (K : KeyLaw P k) (ht : P.underlying t = some (.map k e)) (hb : w.heap[b]? = some (.map es clock)) (h : MapOK P k es clock) (hx : keyOf P k x = some lx) {j : Nat} {en : MapEntry} (hj : es[j]? = some en) (hk : en.key = x) (v : Value) :
    (Instr.mapUpdate t (.map (some b)) x v).run P w = .ok () (withBlk w b (.map (es.modify j fun e => { e with val := v }) clock)) := by
  have hs := K.stays w hx
  have e1 : ((es[j]?).map (·.key)).getD x = x := by rw [hj]; simp [hk]
  have e4 : es.modify j (fun e => { e with key := x, val := v }) = es.modify j fun e => { e with val := v } := by
    apply Array.ext_getElem?
    intro i
    rw [Array.getElem?_modify, Array.getElem?_modify]
    split
    · rename_i h; subst h; rw [hj]; simp [← hk]
    · rfl
  simp only [Instr.mapUpdate, Sem.run_bind, run_underlying ht, MapKept.run_getObj_map hb, K.check w _ hx, h.find_yes K hx hj hk w, Result.andThen_ok, Result.andThen, e1, hs, e4, MapKept.run_setObj_map _ hb, withBlk]
theorem run_entryStore (ht : P.underlying t = some (.map k e)) (hb : w.heap[b]? = some (.map es clock)) (h : MapOK P k es clock) {j : Nat} {en : MapEntry} (hj : es[j]? = some en) (v : Value) :
    (Instr.entryStore t (.map (some b)) (goInt en.born) v).run P w = .ok () (withBlk w b (.map (es.modify j fun e => { e with val := v }) clock)) := by
  have hf : es.findIdx? (fun e => (e.born : Int) == (en.born : Int)) = some j := by
    rw [Array.findIdx?_eq_some_iff_getElem]
    obtain ⟨h1, h2⟩ := Array.getElem?_eq_some_iff.1 hj
    refine ⟨h1, by rw [h2]; simp, fun i hi hb => ?_⟩
    have hb' : es[i].born = en.born := Int.ofNat_inj.1 (by simpa using hb)
    have e1 : (es.toList.map (·.born))[i]? = some en.born := by rw [List.getElem?_map]; simp [show i < es.size by omega, hb']
    have e2 : (es.toList.map (·.born))[j]? = some en.born := by rw [List.getElem?_map]; simp [hj]
    have := nodup_get h.born e1 e2
    omega
  have ha : (asInt (goInt en.born)).run P w = .ok (en.born : Int) w := rfl
  simp only [Instr.entryStore, Sem.run_bind, MapKept.run_getObj_map hb, Result.andThen_ok, Result.andThen, ha, hf, MapKept.run_setObj_map _ hb, withBlk]
theorem run_delete_yes (K : KeyLaw P k) (ht : P.underlying t = some (.map k e)) (hb : w.heap[b]? = some (.map es clock)) (h : MapOK P k es clock) (hx : keyOf P k x = some lx) {j : Nat} {en : MapEntry} (hj : es[j]? = some en) (hk : en.key = x) {ty : TypeId} :
    (Builtin.delete_ #[t, k] ty #[.map (some b), x]).run P w = .ok (.tuple #[]) (withBlk w b (.map (es.eraseIdxIfInBounds j) clock)) := by
  simp [Builtin.delete_, run_underlying ht, MapKept.run_getObj_map hb, K.check w _ hx, h.find_yes K hx hj hk w, MapKept.run_setObj_map _ hb, withBlk]
theorem run_delete_no (K : KeyLaw P k) (ht : P.underlying t = some (.map k e)) (hb : w.heap[b]? = some (.map es clock)) (h : MapOK P k es clock) (hx : keyOf P k x = some lx) (hno : ∀ p ∈ kvs es, p.1 ≠ x) {ty : TypeId} :
    (Builtin.delete_ #[t, k] ty #[.map (some b), x]).run P w = .ok (.tuple #[]) w := by
  have e3 := withBlk_same hb
  unfold withBlk at e3
  simp [Builtin.delete_, run_underlying ht, MapKept.run_getObj_map hb, K.check w _ hx, h.find_no K hx hno w, MapKept.run_setObj_map _ hb, e3]

theorem MapOK.empty (P : Program) (k : TypeId) (c : Nat) : MapOK P k #[] c := ⟨by simp, by simp, by simp, by simp⟩
theorem MapOK.push (h : MapOK P k es clock) (hx : keyOf P k x = some lx) (hno : ∀ p ∈ kvs es, p.1 ≠ x) (v : Value) : MapOK P k (es.push { key := x, val := v, born := clock }) (clock + 1) := by
  refine ⟨?_, ?_, ?_, ?_⟩
  · intro e he
    rw [Array.toList_push] at he
    rcases List.mem_append.1 he with he | he
    · exact h.keyed e he
    · have : e = { key := x, val := v, born := clock } := by simpa using he
      subst this; exact ⟨lx, hx⟩
  · intro e he
    rw [Array.toList_push] at he
    rcases List.mem_append.1 he with he | he
    · have := h.young e he; omega
    · have : e = { key := x, val := v, born := clock } := by simpa using he
      subst this; simp
  · rw [Array.toList_push, List.map_append, List.nodup_append]
    refine ⟨h.born, by simp, ?_⟩
    intro a ha c hc hac
    obtain ⟨e, he, rfl⟩ := List.mem_map.1 ha
    have := h.young e he
    have hc2 : c = clock := by simpa using hc
    omega
  · rw [Array.toList_push, List.map_append, List.nodup_append]
    refine ⟨h.keys, by simp, ?_⟩
    intro a ha c hc hac
    obtain ⟨e, he, rfl⟩ := List.mem_map.1 ha
    have hc2 : c = x := by simpa using hc
    exact hno (e.key, e.val) (List.mem_map_of_mem he) (hac.trans hc2)
theorem kvs_push (es : Array MapEntry) (en : MapEntry) : kvs (es.push en) = kvs es ++ [(en.key, en.val)] := by simp [kvs]
theorem modify_list (f : MapEntry → MapEntry) (es : Array MapEntry) (j : Nat) : (es.modify j f).toList = es.toList.modify j f := by simp
theorem MapOK.modify (h : MapOK P k es clock) (j : Nat) (v : Value) : MapOK P k (es.modify j fun e => { e with val := v }) clock := by
  have hm : ∀ {α : Type} (g : MapEntry → α), (∀ e : MapEntry, g { e with val := v } = g e) → (es.modify j fun e => { e with val := v }).toList.map g = es.toList.map g := by
    intro α g hg
    apply List.ext_getElem?
    intro i
    rw [List.getElem?_map, List.getElem?_map, Array.getElem?_toList, Array.getElem?_toList, Array.getElem?_modify]
    split
    · cases es[i]? <;> simp [hg]
    · rfl
  have hmem : ∀ e ∈ (es.modify j fun e => { e with val := v }).toList, ∃ e' ∈ es.toList, e'.key = e.key ∧ e'.born = e.born := by
    intro e he
    have h1 : (e.key, e.born) ∈ (es.modify j fun e => { e with val := v }).toList.map (fun e => (e.key, e.born)) := List.mem_map_of_mem he
    rw [hm (fun e => (e.key, e.born)) (fun _ => rfl)] at h1
    obtain ⟨e', he', hh⟩ := List.mem_map.1 h1
    simp only [Prod.mk.injEq] at hh
    exact ⟨e', he', hh.1, hh.2⟩
  refine ⟨?_, ?_, ?_, ?_⟩
  · intro e he
    obtain ⟨e', he', h1, _⟩ := hmem e he
    rw [← h1]; exact h.keyed e' he'
  · intro e he
    obtain ⟨e', he', _, h2⟩ := hmem e he
    rw [← h2]; exact h.young e' he'
  · rw [hm (·.born) (fun _ => rfl)]; exact h.born
  · rw [hm (·.key) (fun _ => rfl)]; exact h.keys
theorem kvs_modify {j : Nat} {en : MapEntry} (hj : es[j]? = some en) (v : Value) : kvs (es.modify j fun e => { e with val := v }) = (kvs es).set j (en.key, v) := by
  apply List.ext_getElem?
  intro i
  unfold kvs
  have hjs := (Array.getElem?_eq_some_iff.1 hj).1
  rw [List.getElem?_map, Array.getElem?_toList, Array.getElem?_modify, List.getElem?_set]
  split
  · rename_i h; subst h
    have h2 := (Array.getElem?_eq_some_iff.1 hj).2
    simp [hjs, h2]
  · rw [List.getElem?_map, Array.getElem?_toList]
theorem MapOK.erase (h : MapOK P k es clock) (j : Nat) : MapOK P k (es.eraseIdxIfInBounds j) clock := by
  have hl : (es.eraseIdxIfInBounds j).toList = es.toList.eraseIdx j := by
    unfold Array.eraseIdxIfInBounds
    split
    · simp
    · rename_i hn; rw [List.eraseIdx_of_length_le (by simpa using hn)]
  refine ⟨?_, ?_, ?_, ?_⟩
  · intro e he; rw [hl] at he; exact h.keyed e (List.mem_of_mem_eraseIdx he)
  · intro e he; rw [hl] at he; exact h.young e (List.mem_of_mem_eraseIdx he)
  · rw [hl, map_erase]; exact h.born.sublist (List.eraseIdx_sublist _ _)
  · rw [hl, map_erase]; exact h.keys.sublist (List.eraseIdx_sublist _ _)
theorem kvs_erase (es : Array MapEntry) (j : Nat) : kvs (es.eraseIdxIfInBounds j) = (kvs es).eraseIdx j := by
  unfold kvs
  have hl : (es.eraseIdxIfInBounds j).toList = es.toList.eraseIdx j := by
    unfold Array.eraseIdxIfInBounds
    split
    · simp
    · rename_i hn; rw [List.eraseIdx_of_length_le (by simpa using hn)]
  rw [hl, map_erase]
end
end Go.Proofs.Ytphmefhnffoafaa

/- Deep keys and deep equality: structs of integers and byte arrays. No program in sight. -/
namespace Go.Proofs.Ytphmefhnffoafaa
open Go.RowKit
open Go.WideMaps (KeyLaw)
set_option linter.unusedVariables false
set_option linter.unusedSimpArgs false
section
variable {P : Program}

theorem kl_int {t : TypeId} {k : IntKind} (ht : P.underlying t = some (.int k)) (d : Nat) (z : Int) (h : (Lit.int k z).wf = true) : ∃ l, P.keyLits (d + 1) t [.int k z] = some l := by
  unfold Program.keyLits
  rw [ht]
  refine ⟨[.int k z], ?_⟩
  show (if k = k ∧ (Lit.int k z).wf = true then some [Lit.int k z] else none) = _
  rw [if_pos ⟨rfl, h⟩]
theorem mapM_ex {α β : Type} (f : α → Option β) : ∀ (l : List α), (∀ x ∈ l, ∃ y, f x = some y) → ∃ r, l.mapM f = some r
  | [], _ => ⟨[], rfl⟩
  | x :: l, h => by
    obtain ⟨y, hy⟩ := h x (by simp)
    obtain ⟨r, hr⟩ := mapM_ex f l (fun z hz => h z (by simp [hz]))
    exact ⟨y :: r, by rw [List.mapM_cons, hy, hr]; rfl⟩
theorem kl_struct {t : TypeId} {fs : Array Field} (ht : P.underlying t = some (.struct fs)) (d : Nat) (cs : List Value) (hl : cs.length = P.cellsOf t) (hn : fs.all (·.name != "_") = true)
    (h : ∀ f ∈ fs.toList, ∃ l, P.keyLits d f.type ((cs.drop f.offset).take (P.cellsOf f.type)) = some l) : ∃ l, P.keyLits (d + 1) t cs = some l := by
  unfold Program.keyLits
  rw [ht]
  obtain ⟨r, hr⟩ := mapM_ex _ fs.toList h
  simp only
  rw [if_pos ⟨hl, hn⟩, hr]
  exact ⟨_, rfl⟩
theorem kl_bytes {t e : TypeId} {n : Nat} (ht : P.underlying t = some (.array n e)) (he : P.underlying e = some (.int .u8)) (hce : P.cellsOf e = 1) (hct : P.cellsOf t = n) (d : Nat) (ds : List UInt8) (h : ds.length = n) : ∃ l, P.keyLits (d + 2) t (ds.map B) = some l := by
  unfold Program.keyLits
  rw [ht]
  simp only [List.length_map, h, hct, if_true, hce, Nat.mul_one]
  obtain ⟨r, hr⟩ := mapM_ex (fun i => P.keyLits (d + 1) e (List.take 1 (List.drop i (ds.map B)))) (List.range n) (fun i hi => by
    have hi : i < n := by simpa using hi
    have e1 : List.take 1 (List.drop i (ds.map B)) = [B (ds[i]?.getD 0)] := by
      rw [List.take_one, List.head?_drop, List.getElem?_map, List.getElem?_eq_getElem (by omega)]; rfl
    rw [e1]
    exact kl_int he d (b8 (ds[i]?.getD 0)) (by have := b8_range (ds[i]?.getD 0); simp [Lit.wf, IntKind.min, IntKind.max, IntKind.signed, IntKind.bits]; omega))
  rw [hr]
  exact ⟨_, rfl⟩
theorem keyOf_wide {t : TypeId} (hw : (match P.underlying t with | some (.array _ _) | some (.struct _) => true | _ => false) = true) (hk : P.keyType t = true) (cs : List Value) (hf : (Value.agg cs.toArray).formed P t = true) :
    keyOf P t (.agg cs.toArray) = (P.keyLits (P.types.size + 1) t cs).map fun ls => .string (keyBytes ls) := by
  unfold keyOf
  revert hw
  cases hu : P.underlying t with
  | none => intro h; cases h
  | some d =>
    cases d
    case array => intro _; simp [hk, hf, Value.cells]
    case struct => intro _; simp [hk, hf, Value.cells]
    all_goals (intro h; cases h)
theorem formed_wide {t : TypeId} (hw : (match P.underlying t with | some (.array _ _) | some (.struct _) => true | _ => false) = true) (cs : List Value) (hl : cs.length = P.cellsOf t) : (Value.agg cs.toArray).formed P t = true := by
  unfold Value.formed
  revert hw
  cases hu : P.underlying t with
  | none => simp
  | some d => cases d <;> simp [hl]
/-- From the cells' literals to the key. -/
theorem keyOf_ex {t : TypeId} (hw : (match P.underlying t with | some (.array _ _) | some (.struct _) => true | _ => false) = true) (hk : P.keyType t = true) (cs : List Value) (hl : cs.length = P.cellsOf t)
    (h : ∃ l, P.keyLits (P.types.size + 1) t cs = some l) : ∃ l, keyOf P t (.agg cs.toArray) = some l := by
  obtain ⟨l, hl2⟩ := h
  rw [keyOf_wide hw hk cs (formed_wide hw cs hl), hl2]
  exact ⟨_, rfl⟩
/-- '==' on two values of such a type. -/
theorem eql_deep {t : TypeId} (K : KeyLaw P t) {m : Nat} (hm : m ≤ 10000) (hd : P.keyTypeAt m t = true) (hw : (match P.underlying t with | some (.array _ _) | some (.struct _) => true | _ => false) = true) (hk : P.keyType t = true)
    (x y : List Value) (hx : x.length = P.cellsOf t) (hy : y.length = P.cellsOf t) (kx : ∃ l, P.keyLits (P.types.size + 1) t x = some l) (ky : ∃ l, P.keyLits (P.types.size + 1) t y = some l) :
    ∃ r : Bool, (r = true ↔ x = y) ∧ ∀ w, (Op.equalIn 10000 t (.agg x.toArray) (.agg y.toArray)).run P w = .ok r w := by
  obtain ⟨lx, hlx⟩ := keyOf_ex hw hk x hx kx
  obtain ⟨ly, hly⟩ := keyOf_ex hw hk y hy ky
  have hf := fun cs hl => formed_wide (P := P) (t := t) hw cs hl
  obtain ⟨l1, e1⟩ := kx
  obtain ⟨l2, e2⟩ := ky
  have hall : ∀ w, ∃ r : Bool, (Op.equalIn 10000 t (.agg x.toArray) (.agg y.toArray)).run P w = .ok r w ∧ (r = true ↔ l1 = l2) := by
    intro w
    have := run_equalIn_deep (P := P) (10000 - m) m t hd w _ _ (.agg x.toArray) (.agg y.toArray) l1 l2 (hf x hx) (hf y hy) (by simpa [Value.cells] using e1) (by simpa [Value.cells] using e2)
    rwa [show 10000 - m + m = 10000 by omega] at this
  have hxy : l1 = l2 ↔ x = y := by
    constructor
    · intro h
      subst h
      have k1 : keyOf P t (.agg x.toArray) = keyOf P t (.agg y.toArray) := by
        rw [keyOf_wide hw hk x (hf x hx), keyOf_wide hw hk y (hf y hy), e1, e2]
      have := K.inj hlx (k1 ▸ hlx)
      simpa using this
    · intro h
      subst h
      rw [e1] at e2; cases e2; rfl
  by_cases h : x = y
  · refine ⟨true, by simp [h], fun w => ?_⟩
    obtain ⟨r, h1, h2⟩ := hall w
    have : r = true := h2.2 (hxy.2 h)
    rw [h1, this]
  · refine ⟨false, by simp [h], fun w => ?_⟩
    obtain ⟨r, h1, h2⟩ := hall w
    have : r = false := by
      cases r with
      | false => rfl
      | true => exact absurd (hxy.1 (h2.1 rfl)) h
    rw [h1, this]
end
end Go.Proofs.Ytphmefhnffoafaa

/- Contracts of entry.Right and header.Right. -/
namespace Go.Proofs.Ytphmefhnffoafaa
open Go.RowKit
set_option linter.unusedVariables false

structure Ent where
  kind : Int
  shard : Int
  tx : List UInt8
  amount : Int
  why : Int
  epoch : Int
structure Hdr where
  shard : Int
  height : Int
  epoch : Int
  prev : List UInt8
  root : List UInt8
def I64 (n : Int) : Prop := -9223372036854775808 ≤ n ∧ n ≤ 9223372036854775807
def U64 (n : Int) : Prop := 0 ≤ n ∧ n ≤ 18446744073709551615
theorem I64.wf {n : Int} (h : I64 n) : (Lit.int .i64 n).wf = true := by unfold I64 at h; simp [Lit.wf, IntKind.min, IntKind.max, IntKind.signed, IntKind.bits]; omega
theorem U64.wf {n : Int} (h : U64 n) : (Lit.int .u64 n).wf = true := by unfold U64 at h; simp [Lit.wf, IntKind.min, IntKind.max, IntKind.signed, IntKind.bits]; omega
def Ent.ok (e : Ent) : Prop := I64 e.kind ∧ I64 e.shard ∧ e.tx.length = 32 ∧ U64 e.amount ∧ I64 e.why ∧ I64 e.epoch
def Hdr.ok (h : Hdr) : Prop := I64 h.shard ∧ I64 h.height ∧ I64 h.epoch ∧ h.prev.length = 32 ∧ h.root.length = 32
def entV (e : Ent) : List Value := .int .i64 e.kind :: .int .i64 e.shard :: (e.tx.map B ++ [.int .u64 e.amount, .int .i64 e.why, .int .i64 e.epoch])
def hdrV (h : Hdr) : List Value := .int .i64 h.shard :: .int .i64 h.height :: .int .i64 h.epoch :: (h.prev.map B ++ h.root.map B)
theorem entV_length {e : Ent} (h : e.ok) : (entV e).length = 37 := by simp [entV, h.2.2.1]
theorem hdrV_length {e : Hdr} (h : e.ok) : (hdrV e).length = 67 := by simp [hdrV, h.2.2.2.1, h.2.2.2.2]
def noEnt : Ent := ⟨0, 0, List.replicate 32 0, 0, 0, 0⟩
def noHdr : Hdr := ⟨0, 0, 0, List.replicate 32 0, List.replicate 32 0⟩
theorem noEnt_ok : noEnt.ok := by simp [noEnt, Ent.ok, I64, U64]
theorem noHdr_ok : noHdr.ok := by simp [noHdr, Hdr.ok, I64]

theorem cells_u8 : Try.prog.cellsOf 5 = 1 := by kernel_rfl
theorem cells_u64 : Try.prog.cellsOf 26 = 1 := by kernel_rfl
theorem cells_id : Try.prog.cellsOf 37 = 32 := by kernel_rfl
theorem cells_int : Try.prog.cellsOf 3 = 1 := by kernel_rfl
theorem laid_out' : laidOutB Try.prog = true := by kernel_rfl
theorem types_3 : ∃ n, Try.prog.types.size + 1 = n + 4 := ⟨Try.prog.types.size - 3, by kernel_rfl⟩

theorem lits_id (d : Nat) (ds : List UInt8) (h : ds.length = 32) : ∃ l, Try.prog.keyLits (d + 2) 37 (ds.map B) = some l :=
  kl_bytes Try.underlying37 Try.underlying5 cells_u8 cells_id d ds h
def inB (n lo hi : Int) : Bool := decide (lo ≤ n) && decide (n ≤ hi)
def rightE (e : Ent) : Bool := inB e.kind 1 3 && inB e.shard 0 63 && decide (e.amount ≤ 4611686018427387904) && inB e.why 0 63 && inB e.epoch 0 1099511627776
def rightH (h : Hdr) : Bool := inB h.shard 0 63 && inB h.height 1 1099511627776 && inB h.epoch 0 1099511627776

def zeroEnt : Array Value := #[.int .i64 0, .int .i64 0, .int .u8 0, .int .u8 0, .int .u8 0, .int .u8 0, .int .u8 0, .int .u8 0, .int .u8 0, .int .u8 0, .int .u8 0, .int .u8 0, .int .u8 0, .int .u8 0, .int .u8 0, .int .u8 0, .int .u8 0, .int .u8 0, .int .u8 0, .int .u8 0, .int .u8 0, .int .u8 0, .int .u8 0, .int .u8 0, .int .u8 0, .int .u8 0, .int .u8 0, .int .u8 0, .int .u8 0, .int .u8 0, .int .u8 0, .int .u8 0, .int .u8 0, .int .u8 0, .int .u64 0, .int .i64 0, .int .i64 0]
def zeroHdr : Array Value := #[.int .i64 0, .int .i64 0, .int .i64 0, .int .u8 0, .int .u8 0, .int .u8 0, .int .u8 0, .int .u8 0, .int .u8 0, .int .u8 0, .int .u8 0, .int .u8 0, .int .u8 0, .int .u8 0, .int .u8 0, .int .u8 0, .int .u8 0, .int .u8 0, .int .u8 0, .int .u8 0, .int .u8 0, .int .u8 0, .int .u8 0, .int .u8 0, .int .u8 0, .int .u8 0, .int .u8 0, .int .u8 0, .int .u8 0, .int .u8 0, .int .u8 0, .int .u8 0, .int .u8 0, .int .u8 0, .int .u8 0, .int .u8 0, .int .u8 0, .int .u8 0, .int .u8 0, .int .u8 0, .int .u8 0, .int .u8 0, .int .u8 0, .int .u8 0, .int .u8 0, .int .u8 0, .int .u8 0, .int .u8 0, .int .u8 0, .int .u8 0, .int .u8 0, .int .u8 0, .int .u8 0, .int .u8 0, .int .u8 0, .int .u8 0, .int .u8 0, .int .u8 0, .int .u8 0, .int .u8 0, .int .u8 0, .int .u8 0, .int .u8 0, .int .u8 0, .int .u8 0, .int .u8 0, .int .u8 0]
theorem zeroEnt_eq : (entV noEnt).toArray = zeroEnt := rfl
theorem zeroHdr_eq : (hdrV noHdr).toArray = zeroHdr := rfl

theorem ent_at {e : Ent} (h : e.ok) : (entV e)[0]? = some (.int .i64 e.kind) ∧ (entV e)[1]? = some (.int .i64 e.shard) ∧ (entV e)[34]? = some (.int .u64 e.amount) ∧ (entV e)[35]? = some (.int .i64 e.why) ∧ (entV e)[36]? = some (.int .i64 e.epoch) := by
  have e0 : (e.tx.map B).length = 32 := by rw [List.length_map, h.2.2.1]
  refine ⟨rfl, rfl, ?_, ?_, ?_⟩
  all_goals
    unfold entV
    rw [List.getElem?_cons_succ, List.getElem?_cons_succ, List.getElem?_append_right (by omega), e0]
    rfl

theorem zeroV_of {P : Program} {t : TypeId} {zs : Array Value} (h : (P.info? t).map (·.zero) = some (some (.agg zs))) (w : World) : (zeroValue t).run P w = .ok (.agg zs) w := by
  obtain ⟨i, hi, hz⟩ := Option.map_eq_some_iff.1 h
  simp [zeroValue, typeInfo, hi, hz]
theorem hdr_at {e : Hdr} (h : e.ok) : (hdrV e)[0]? = some (.int .i64 e.shard) ∧ (hdrV e)[1]? = some (.int .i64 e.height) ∧ (hdrV e)[2]? = some (.int .i64 e.epoch) := ⟨rfl, rfl, rfl⟩
end Go.Proofs.Ytphmefhnffoafaa

/- Arguments opened: arrays of bytes, as the row's reading gives them. -/
namespace Go.Proofs.Ytphmefhnffoafaa
open Go.RowKit Go.ChangeShapes Go.WideShapes
set_option linter.unusedVariables false
section
variable {H : Type} {enc : TypeId × Value → H} {P : Program} {w : World} {base : Nat} {spare : Nat → Bool} {held : Bool}

theorem trod_bytes {t e : TypeId} {n : Nat} {fuel : Nat} {cs : List Value} {x : DataW H × List MemPlace} (ht : P.underlying t = some (.array n e)) (he : P.underlying e = some (.int .u8)) (hce : P.cellsOf e = 1) (hct : P.cellsOf t = n)
    (h : DataW.trod enc P w base spare held fuel t cs = some x) : ∃ ds : List UInt8, cs = ds.map B ∧ ds.length = n := by
  obtain ⟨xs, m, rfl, rfl, hl, hxl, hi⟩ := DataW.trod_array ht h
  rw [hct] at hl
  refine ⟨cs.map (fun v => match v with | .int _ z => UInt8.ofNat z.toNat | _ => 0), ?_, by rw [List.length_map, hl]⟩
  apply List.ext_getElem?
  intro i
  by_cases hin : i < n
  · have h1 := hi i hin
    rw [hce, Nat.mul_one, List.getElem?_eq_getElem (by omega)] at h1
    obtain ⟨z, h2, _, h3⟩ := DataW.trod_int he h1
    have h4 : cs[i]? = some (.int .u8 z) := by
      have := congrArg List.head? h2
      rw [List.take_one] at this
      simpa using this
    have hz := bounds_u8 h3
    rw [List.getElem?_map, List.getElem?_map, h4]
    simp only [Option.map_some, B, b8]
    congr 2
    rw [UInt8.toNat_ofNat']
    omega
  · rw [List.getElem?_eq_none (by omega), List.getElem?_eq_none (by simp; omega)]
end


theorem open_arr32 {H : Type} {enc : TypeId × Value → H} {P : Program} {w : World} {r : Reach} {b0 base : Nat} {spare : Nat → Bool} {held : Bool} {t e : TypeId} {v : Value} {d : DataW H} {ps : List MemPlace}
    (ht : P.underlying t = some (.array 32 e)) (he : P.underlying e = some (.int .u8)) (hce : P.cellsOf e = 1) (hct : P.cellsOf t = 32) (hval : Value.okWide P w r b0 t v) (h : DataW.Trod enc P w base spare held t v d ps) :
    ∃ ds : List UInt8, v = .agg (ds.map B).toArray ∧ ds.length = 32 := by
  simp only [Value.okWide, ht] at hval
  obtain ⟨cs, rfl, hsz, _⟩ := hval
  obtain ⟨fuel, hf⟩ := h
  obtain ⟨ds, h1, h2⟩ := trod_bytes ht he hce hct hf
  refine ⟨ds, ?_, h2⟩
  simp only [Value.cells] at h1
  rw [← h1]
end Go.Proofs.Ytphmefhnffoafaa

/- Arguments opened: slices, of whatever elements; slices of bytes, of slices of bytes, of digests. -/
namespace Go.Proofs.Ytphmefhnffoafaa
open Go.RowKit Go.ChangeShapes Go.WideShapes Go.Deep
set_option linter.unusedVariables false
section
variable {H : Type} {enc : TypeId × Value → H} {P : Program} {w : World} {r : Reach} {b0 base : Nat} {spare : Nat → Bool} {held : Bool}

theorem flat_len {α : Type} {f : α → List Value} {sz : Nat} : ∀ {l : List α}, (∀ x ∈ l, (f x).length = sz) → (l.flatMap f).length = l.length * sz
  | [], _ => by simp
  | x :: l, h => by
    rw [List.flatMap_cons, List.length_append, h x (by simp), flat_len (l := l) (fun y hy => h y (by simp [hy])), List.length_cons, Nat.succ_mul, Nat.add_comm]
theorem flat_at {α : Type} {f : α → List Value} {sz : Nat} : ∀ {l : List α}, (∀ x ∈ l, (f x).length = sz) → 0 < sz → ∀ {j : Nat} {u : Value}, (l.flatMap f)[j]? = some u → ∃ x, l[j / sz]? = some x ∧ (f x)[j % sz]? = some u
  | [], _, _, j, u, hu => by simp at hu
  | x :: l, h, h0, j, u, hu => by
    rw [List.flatMap_cons] at hu
    have hx := h x (by simp)
    by_cases hj : j < sz
    · rw [List.getElem?_append_left (by omega)] at hu
      refine ⟨x, by rw [Nat.div_eq_of_lt hj]; rfl, by rw [Nat.mod_eq_of_lt hj]; exact hu⟩
    · rw [List.getElem?_append_right (by omega), hx] at hu
      obtain ⟨y, h1, h2⟩ := flat_at (l := l) (fun y hy => h y (by simp [hy])) h0 hu
      have e1 : j / sz = (j - sz) / sz + 1 := by rw [← Nat.div_eq_sub_div h0 (by omega)]
      have e2 : j % sz = (j - sz) % sz := by rw [Nat.mod_eq_sub_mod (by omega)]
      exact ⟨y, by rw [e1, List.getElem?_cons_succ]; exact h1, by rw [e2]; exact h2⟩

/-- A slice that came in, of elements whose cells are 'f x'. -/
theorem open_list0 {α : Type} [Inhabited α] (f : α → List Value) (ok : α → Prop) {t e : TypeId} {fuel : Nat} {cs : List Value} {y : DataW H × List MemPlace} {sz : Nat} (ht : P.underlying t = some (.slice e)) (hce : P.cellsOf e = sz) (hsz : 0 < sz)
    (helem : ∀ fuel cs y, cs.length = sz → DataW.trod enc P w base spare held fuel e cs = some y → ∃ x, cs = f x ∧ ok x)
    (hf : DataW.trod enc P w base spare held fuel t cs = some y) :
    ∃ A n c, ∃ l : List α, cs = [.slice A n c] ∧ l.length = n ∧ n ≤ c ∧ c ≤ maxLen ∧ Sl w w.heap.size sz A n (l.flatMap f) ∧ (∀ x ∈ l, ok x) ∧ (∀ x ∈ l, (f x).length = sz) := by
  rcases open_slice ht hf with ⟨hcs, _⟩ | ⟨a, n, c, m, k, D, Pl, hcs, _, hl, hm, hmm, _, hx⟩
  · subst hcs
    exact ⟨none, 0, 0, [], rfl, rfl, Nat.le_refl _, Nat.zero_le _, ⟨by simp, fun h => absurd h (by omega)⟩, by simp, by simp⟩
  · subst hcs
    have hle : n ≤ m := by rw [hmm]; split <;> omega
    rw [hce] at hx
    obtain ⟨X, hX⟩ := choose_lt (n := n) (p := fun i (x : α) => w.cells? base (a.add (i * sz)) sz = some (f x) ∧ (f x).length = sz ∧ ok x) (fun i hi => by
      obtain ⟨cs', h1, h2⟩ := hx i (by omega)
      obtain ⟨_, hlen, _⟩ := World.cells?_some h1
      obtain ⟨x, e, hok⟩ := helem _ _ _ hlen h2
      exact ⟨x, by rw [← e]; exact h1, by rw [← e]; exact hlen, hok⟩)
    have hlen : ∀ x ∈ (List.range n).map X, (f x).length = sz := by
      intro x hx
      obtain ⟨i, hi, rfl⟩ := List.mem_map.1 hx
      exact (hX i (by simpa using hi)).2.1
    refine ⟨some a, n, c, (List.range n).map X, rfl, by simp, hl, hm, ⟨by rw [flat_len hlen]; simp, fun hn => ?_⟩, ?_, hlen⟩
    · obtain ⟨b, off, spot⟩ := a
      obtain ⟨_, _, h0⟩ := World.cells?_some (hX 0 hn).1
      have h00 := h0 0 hsz
      have hc0 : ∃ u, w.cell? ((Addr.add ⟨b, off, spot⟩ (0 * sz)).add 0) = some u := ⟨_, by rw [h00, List.getElem?_eq_getElem (by rw [(hX 0 hn).2.1]; exact hsz)]⟩
      obtain ⟨u0, hu0⟩ := hc0
      have hspot : spot = none := by simpa [Addr.add] using World.cell?_spot hu0
      subst hspot
      refine ⟨b, off, rfl, by have := World.block_lt_of_cell? w _ hu0; simpa [Addr.add] using this, fun j u hu => ?_⟩
      obtain ⟨x, h1, h2⟩ := flat_at hlen hsz hu
      rw [List.getElem?_map] at h1
      obtain ⟨i, h3, rfl⟩ := Option.map_eq_some_iff.1 h1
      have hi : j / sz = i ∧ i < n := by
        rcases Nat.lt_or_ge (j / sz) n with hl | hl
        · rw [List.getElem?_range hl] at h3; cases h3; exact ⟨rfl, hl⟩
        · rw [List.getElem?_eq_none (by simpa using hl)] at h3; cases h3
      obtain ⟨_, _, hc⟩ := World.cells?_some (hX i hi.2).1
      have := hc (j % sz) (Nat.mod_lt _ hsz)
      rw [h2, Addr.add_lit, Addr.add_lit] at this
      rw [← this, ← hi.1]
      have := Nat.div_add_mod j sz
      have e : off + j = off + j / sz * sz + j % sz := by rw [Nat.mul_comm] at this; omega
      rw [e]
    · intro x hx
      obtain ⟨i, hi, rfl⟩ := List.mem_map.1 hx
      exact (hX i (by simpa using hi)).2.2

theorem open_list {α : Type} [Inhabited α] (f : α → List Value) (ok : α → Prop) {t e : TypeId} {v : Value} {d : DataW H} {ps : List MemPlace} {sz : Nat} (ht : P.underlying t = some (.slice e)) (hce : P.cellsOf e = sz) (hsz : 0 < sz)
    (helem : ∀ fuel cs y, cs.length = sz → DataW.trod enc P w base spare held fuel e cs = some y → ∃ x, cs = f x ∧ ok x)
    (hval : Value.okWide P w r b0 t v) (h : DataW.Trod enc P w base spare held t v d ps) :
    ∃ A n c, ∃ l : List α, v = .slice A n c ∧ l.length = n ∧ n ≤ c ∧ c ≤ maxLen ∧ Sl w w.heap.size sz A n (l.flatMap f) ∧ (∀ x ∈ l, ok x) ∧ (∀ x ∈ l, (f x).length = sz) := by
  obtain ⟨A, n, c, rfl⟩ := okWide_slice ht hval
  obtain ⟨fuel, hf⟩ := h
  obtain ⟨A', n', c', l, h1, hr⟩ := open_list0 f ok ht hce hsz helem hf
  have h1 : A = A' ∧ n = n' ∧ c = c' := by simpa [Value.cells] using h1
  obtain ⟨rfl, rfl, rfl⟩ := h1
  exact ⟨A, n, c, l, rfl, hr⟩

theorem flat_one {α : Type} (g : α → Value) (l : List α) : l.flatMap (fun x => [g x]) = l.map g := by
  induction l with
  | nil => rfl
  | cons x l ih => simp [ih]

theorem trod_u8 {e : TypeId} (he : P.underlying e = some (.int .u8)) {fuel : Nat} {cs : List Value} {y : DataW H × List MemPlace} (h : DataW.trod enc P w base spare held fuel e cs = some y) : ∃ x : UInt8, cs = [B x] ∧ True := by
  obtain ⟨z, h1, _, h2⟩ := DataW.trod_int he h
  have hz := bounds_u8 h2
  refine ⟨UInt8.ofNat z.toNat, ?_, trivial⟩
  rw [h1]
  simp only [B, b8]
  congr 2
  rw [UInt8.toNat_ofNat']; omega
theorem open_u8s0 {t e : TypeId} {fuel : Nat} {cs : List Value} {y : DataW H × List MemPlace} (ht : P.underlying t = some (.slice e)) (he : P.underlying e = some (.int .u8)) (hce : P.cellsOf e = 1) (h : DataW.trod enc P w base spare held fuel t cs = some y) :
    ∃ A n c, ∃ bs : List UInt8, cs = [.slice A n c] ∧ Sl w w.heap.size 1 A n (bs.map B) ∧ n ≤ c ∧ c ≤ maxLen ∧ bs.length = n := by
  obtain ⟨A, n, c, l, h1, h2, h3, h4, h5, _⟩ := open_list0 (fun x : UInt8 => [B x]) (fun _ => True) ht hce (by omega) (fun fuel cs y _ h => trod_u8 he h) h
  exact ⟨A, n, c, l, h1, by rw [← flat_one]; exact h5, h3, h4, h2⟩
theorem open_u8s {t e : TypeId} {v : Value} {d : DataW H} {ps : List MemPlace} (ht : P.underlying t = some (.slice e)) (he : P.underlying e = some (.int .u8)) (hce : P.cellsOf e = 1) (hval : Value.okWide P w r b0 t v) (h : DataW.Trod enc P w base spare held t v d ps) :
    ∃ A n c, ∃ bs : List UInt8, v = .slice A n c ∧ Sl w w.heap.size 1 A n (bs.map B) ∧ n ≤ c ∧ c ≤ maxLen := by
  obtain ⟨A, n, c, l, h1, h2, h3, h4, h5, _⟩ := open_list (fun x : UInt8 => [B x]) (fun _ => True) ht hce (by omega) (fun fuel cs y _ h => trod_u8 he h) hval h
  exact ⟨A, n, c, l, h1, by rw [← flat_one]; exact h5, h3, h4⟩
end
end Go.Proofs.Ytphmefhnffoafaa

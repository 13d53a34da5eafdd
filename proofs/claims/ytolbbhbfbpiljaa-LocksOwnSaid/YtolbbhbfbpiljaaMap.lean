/- Maps whose keys are structs or arrays: what lookup, assignment and delete do to the list of their pairs. No program in sight. -/
import Derived.Test.YtolbbhbfbpiljaaBase
import Derived.DeepKeys4
import Derived.MapKept
import Derived.Maps.Own
namespace Go.Proofs.Ytolbbhbfbpiljaa
set_option linter.unusedSimpArgs false
set_option linter.unusedVariables false
open Go.WideMaps (KeyLaw)

structure MapOK (P : Program) (k : TypeId) (es : Array MapEntry) (clock : Nat) : Prop where
  keyed : ∀ e ∈ es.toList, ∃ l, keyOf P k e.key = some l
  young : ∀ e ∈ es.toList, e.born < clock
  born : (es.toList.map (·.born)).Nodup
  keys : (es.toList.map (·.key)).Nodup
/-- The pairs, in the order in which they came. -/
def kvs (es : Array MapEntry) : List (Value × Value) := es.toList.map fun e => (e.key, e.val)
theorem kvs_length (es : Array MapEntry) : (kvs es).length = es.size := by simp [kvs]

/-- The world with another thing in block b. -/
def withBlk (w : World) (b : Nat) (o : Obj) : World := { w with heap := w.heap.setIfInBounds b o }
theorem withBlk_grown (w : World) (b : Nat) (o : Obj) : w.grownBy (withBlk w b o) (some b) :=
  ⟨rfl, rfl, rfl, by simp [withBlk], fun j _ hj => by
    unfold withBlk
    rw [Array.getElem?_setIfInBounds_ne (fun e => hj (by rw [e]))]⟩
theorem withBlk_heap {w : World} {b : Nat} {o o' : Obj} (h : w.heap[b]? = some o') : (withBlk w b o).heap[b]? = some o := by
  have hb := (Array.getElem?_eq_some_iff.1 h).1
  simp [withBlk, hb]
theorem withBlk_size (w : World) (b : Nat) (o : Obj) : (withBlk w b o).heap.size = w.heap.size := by simp [withBlk]
theorem withBlk_same {w : World} {b : Nat} {o : Obj} (h : w.heap[b]? = some o) : withBlk w b o = w := by
  unfold withBlk
  have : w.heap.setIfInBounds b o = w.heap := by
    apply Array.ext_getElem?
    intro i
    by_cases hi : b = i
    · subst hi
      have hb := (Array.getElem?_eq_some_iff.1 h).1
      rw [h]; simp [hb]
    · rw [Array.getElem?_setIfInBounds_ne hi]
  rw [this]

section
variable {P : Program} {w : World} {t k e : TypeId} {es : Array MapEntry} {clock b : Nat} {x : Value} {lx : Lit}

theorem MapOK.find (K : KeyLaw P k) (h : MapOK P k es clock) (hx : keyOf P k x = some lx) (w : World) :
    ((Instr.findKey k x es.toList).run P w = .ok none w ∧ ∀ p ∈ kvs es, p.1 ≠ x) ∨ ∃ j en, (Instr.findKey k x es.toList).run P w = .ok (some (j, en.val)) w ∧ es[j]? = some en ∧ en.key = x := by
  rcases K.find w hx es.toList h.keyed with ⟨h1, h2⟩ | ⟨j, en, h1, h2, h3⟩
  · left
    refine ⟨h1, fun p hp => ?_⟩
    obtain ⟨en, hen, rfl⟩ := List.mem_map.1 hp
    exact h2 en hen
  · exact .inr ⟨j, en, h1, by simpa using h2, h3⟩
theorem MapOK.find_no (K : KeyLaw P k) (h : MapOK P k es clock) (hx : keyOf P k x = some lx) (hno : ∀ p ∈ kvs es, p.1 ≠ x) (w : World) : (Instr.findKey k x es.toList).run P w = .ok none w := by
  rcases h.find K hx w with ⟨h1, _⟩ | ⟨j, en, _, h2, h3⟩
  · exact h1
  · exfalso
    have : en ∈ es.toList := by simpa using Array.mem_of_getElem? h2
    exact hno (en.key, en.val) (List.mem_map_of_mem this) h3
theorem nodup_get {α : Type} {l : List α} (h : l.Nodup) {i j : Nat} {x : α} (hi : l[i]? = some x) (hj : l[j]? = some x) : i = j := by
  obtain ⟨h1, h2⟩ := List.getElem?_eq_some_iff.1 hi
  obtain ⟨h3, h4⟩ := List.getElem?_eq_some_iff.1 hj
  have hp := List.pairwise_iff_getElem.1 h
  rcases Nat.lt_trichotomy i j with hij | hij | hij
  · exact absurd (h2.trans h4.symm) (hp i j h1 h3 hij)
  · exact hij
  · exact absurd (h4.trans h2.symm) (hp j i h3 h1 hij)
theorem map_erase {α β : Type} (f : α → β) : ∀ (l : List α) (j : Nat), (l.eraseIdx j).map f = (l.map f).eraseIdx j
  | [], _ => rfl
  | _ :: _, 0 => rfl
  | x :: l, j + 1 => by simp [map_erase f l j]
theorem MapOK.find_yes (K : KeyLaw P k) (h : MapOK P k es clock) (hx : keyOf P k x = some lx) {j : Nat} {en : MapEntry} (hj : es[j]? = some en) (hk : en.key = x) (w : World) : (Instr.findKey k x es.toList).run P w = .ok (some (j, en.val)) w := by
  rcases h.find K hx w with ⟨_, h2⟩ | ⟨j', en', h1, h2, h3⟩
  · exfalso
    have : en ∈ es.toList := by simpa using Array.mem_of_getElem? hj
    exact h2 (en.key, en.val) (List.mem_map_of_mem this) hk
  · have e1 : (es.toList.map (·.key))[j]? = some x := by rw [List.getElem?_map]; simp [hj, hk]
    have e2 : (es.toList.map (·.key))[j']? = some x := by rw [List.getElem?_map]; simp [h2, h3]
    have := nodup_get h.keys e1 e2
    subst this
    rw [hj] at h2
    cases h2
    exact h1

theorem run_lookup_no (K : KeyLaw P k) (ht : P.underlying t = some (.map k e)) (hb : w.heap[b]? = some (.map es clock)) (h : MapOK P k es clock) (hx : keyOf P k x = some lx) (hno : ∀ p ∈ kvs es, p.1 ≠ x)
    {z : Value} (hz : ∀ w, (zeroValue e).run P w = .ok z w) : (Instr.lookup t (.map (some b)) x true).run P w = .ok (.tuple #[z, .bool false]) w := by
  simp [Instr.lookup, run_underlying ht, MapKept.run_getObj_map hb, K.check w _ hx, h.find_no K hx hno w, hz]
theorem run_lookup_yes (K : KeyLaw P k) (ht : P.underlying t = some (.map k e)) (hb : w.heap[b]? = some (.map es clock)) (h : MapOK P k es clock) (hx : keyOf P k x = some lx) {j : Nat} {en : MapEntry} (hj : es[j]? = some en) (hk : en.key = x) :
    (Instr.lookup t (.map (some b)) x true).run P w = .ok (.tuple #[en.val, .bool true]) w := by
  simp [Instr.lookup, run_underlying ht, MapKept.run_getObj_map hb, K.check w _ hx, h.find_yes K hx hj hk w]

theorem run_mapEntry_no (K : KeyLaw P k) (ht : P.underlying t = some (.map k e)) (hb : w.heap[b]? = some (.map es clock)) (h : MapOK P k es clock) (hx : keyOf P k x = some lx) (hno : ∀ p ∈ kvs es, p.1 ≠ x)
    {z : Value} (hz : ∀ w, (zeroValue e).run P w = .ok z w) : (Instr.mapEntry t (.map (some b)) x).run P w = .ok (.tuple #[z, goInt clock]) (withBlk w b (.map (es.push { key := x, val := z, born := clock }) (clock + 1))) := by
  simp [Instr.mapEntry, run_underlying ht, MapKept.run_getObj_map hb, K.check w _ hx, h.find_no K hx hno w, hz, MapKept.run_setObj_map _ hb, withBlk, Result.andThen]
theorem run_mapUpdate_no (K : KeyLaw P k) (ht : P.underlying t = some (.map k e)) (hb : w.heap[b]? = some (.map es clock)) (h : MapOK P k es clock) (hx : keyOf P k x = some lx) (hno : ∀ p ∈ kvs es, p.1 ≠ x) (v : Value) :
    (Instr.mapUpdate t (.map (some b)) x v).run P w = .ok () (withBlk w b (.map (es.push { key := x, val := v, born := clock }) (clock + 1))) := by
  simp [Instr.mapUpdate, run_underlying ht, MapKept.run_getObj_map hb, K.check w _ hx, h.find_no K hx hno w, MapKept.run_setObj_map _ hb, withBlk, Result.andThen]
theorem modify_key {j : Nat} {en : MapEntry} (hj : es[j]? = some en) (hk : en.key = x) : es.modify j (fun e => { e with key := x }) = es := by
  apply Array.ext_getElem?
  intro i
  rw [Array.getElem?_modify]
  split
  · rename_i h; subst h; rw [hj]; simp [← hk]
  · rfl
theorem run_mapEntry_yes (K : KeyLaw P k) (ht : P.underlying t = some (.map k e)) (hb : w.heap[b]? = some (.map es clock)) (h : MapOK P k es clock) (hx : keyOf P k x = some lx) {j : Nat} {en : MapEntry} (hj : es[j]? = some en) (hk : en.key = x) :
    (Instr.mapEntry t (.map (some b)) x).run P w = .ok (.tuple #[en.val, goInt en.born]) w := by
  have hs := K.stays w hx
  have e1 : ((es[j]?).map (·.key)).getD x = x := by rw [hj]; simp [hk]
  have e3 := withBlk_same hb
  unfold withBlk at e3
  simp only [Instr.mapEntry, Sem.run_bind, run_underlying ht, MapKept.run_getObj_map hb, K.check w _ hx, h.find_yes K hx hj hk w, Result.andThen_ok, Result.andThen, e1, hs, modify_key hj hk, MapKept.run_setObj_map _ hb, e3]
  rw [show (Option.map (fun x => (x.born : Int)) es[j]?).getD 0 = (en.born : Int) by rw [hj]; rfl]
  rfl
theorem run_mapUpdate_yes (K : KeyLaw P k) (ht : P.underlying t = some (.map k e)) (hb : w.heap[b]? = some (.map es clock)) (h : MapOK P k es clock) (hx : keyOf P k x = some lx) {j : Nat} {en : MapEntry} (hj : es[j]? = some en) (hk : en.key = x) (v : Value) :
    (Instr.mapUpdate t (.map (some b)) x v).run P w = .ok () (withBlk w b (.map (es.modify j fun e => { e with val := v }) clock)) := by
  have hs := K.stays w hx
  have e1 : ((es[j]?).map (·.key)).getD x = x := by rw [hj]; simp [hk]
  have e4 : es.modify j (fun e => { e with key := x, val := v }) = es.modify j fun e => { e with val := v } := by
    apply Array.ext_getElem?
    intro i
    rw [Array.getElem?_modify, Array.getElem?_modify]
    split
    · rename_i h; subst h; rw [hj]; simp [← hk]
    · rfl
  simp only [Instr.mapUpdate, Sem.run_bind, run_underlying ht, MapKept.run_getObj_map hb, K.check w _ hx, h.find_yes K hx hj hk w, Result.andThen_ok, Result.andThen, e1, hs, e4, MapKept.run_setObj_map _ hb, withBlk]
theorem run_entryStore (ht : P.underlying t = some (.map k e)) (hb : w.heap[b]? = some (.map es clock)) (h : MapOK P k es clock) {j : Nat} {en : MapEntry} (hj : es[j]? = some en) (v : Value) :
    (Instr.entryStore t (.map (some b)) (goInt en.born) v).run P w = .ok () (withBlk w b (.map (es.modify j fun e => { e with val := v }) clock)) := by
  have hf : es.findIdx? (fun e => (e.born : Int) == (en.born : Int)) = some j := by
    rw [Array.findIdx?_eq_some_iff_getElem]
    obtain ⟨h1, h2⟩ := Array.getElem?_eq_some_iff.1 hj
    refine ⟨h1, by rw [h2]; simp, fun i hi hb => ?_⟩
    have hb' : es[i].born = en.born := Int.ofNat_inj.1 (by simpa using hb)
    have e1 : (es.toList.map (·.born))[i]? = some en.born := by rw [List.getElem?_map]; simp [show i < es.size by omega, hb']
    have e2 : (es.toList.map (·.born))[j]? = some en.born := by rw [List.getElem?_map]; simp [hj]
    have := nodup_get h.born e1 e2
    omega
  have ha : (asInt (goInt en.born)).run P w = .ok (en.born : Int) w := rfl
  simp only [Instr.entryStore, Sem.run_bind, MapKept.run_getObj_map hb, Result.andThen_ok, Result.andThen, ha, hf, MapKept.run_setObj_map _ hb, withBlk]
theorem run_delete_yes (K : KeyLaw P k) (ht : P.underlying t = some (.map k e)) (hb : w.heap[b]? = some (.map es clock)) (h : MapOK P k es clock) (hx : keyOf P k x = some lx) {j : Nat} {en : MapEntry} (hj : es[j]? = some en) (hk : en.key = x) {ty : TypeId} :
    (Builtin.delete_ #[t, k] ty #[.map (some b), x]).run P w = .ok (.tuple #[]) (withBlk w b (.map (es.eraseIdxIfInBounds j) clock)) := by
  simp [Builtin.delete_, run_underlying ht, MapKept.run_getObj_map hb, K.check w _ hx, h.find_yes K hx hj hk w, MapKept.run_setObj_map _ hb, withBlk]
theorem run_delete_no (K : KeyLaw P k) (ht : P.underlying t = some (.map k e)) (hb : w.heap[b]? = some (.map es clock)) (h : MapOK P k es clock) (hx : keyOf P k x = some lx) (hno : ∀ p ∈ kvs es, p.1 ≠ x) {ty : TypeId} :
    (Builtin.delete_ #[t, k] ty #[.map (some b), x]).run P w = .ok (.tuple #[]) w := by
  have e3 := withBlk_same hb
  unfold withBlk at e3
  simp [Builtin.delete_, run_underlying ht, MapKept.run_getObj_map hb, K.check w _ hx, h.find_no K hx hno w, MapKept.run_setObj_map _ hb, e3]

theorem MapOK.empty (P : Program) (k : TypeId) (c : Nat) : MapOK P k #[] c := ⟨by simp, by simp, by simp, by simp⟩
theorem MapOK.push (h : MapOK P k es clock) (hx : keyOf P k x = some lx) (hno : ∀ p ∈ kvs es, p.1 ≠ x) (v : Value) : MapOK P k (es.push { key := x, val := v, born := clock }) (clock + 1) := by
  refine ⟨?_, ?_, ?_, ?_⟩
  · intro e he
    rw [Array.toList_push] at he
    rcases List.mem_append.1 he with he | he
    · exact h.keyed e he
    · have : e = { key := x, val := v, born := clock } := by simpa using he
      subst this; exact ⟨lx, hx⟩
  · intro e he
    rw [Array.toList_push] at he
    rcases List.mem_append.1 he with he | he
    · have := h.young e he; omega
    · have : e = { key := x, val := v, born := clock } := by simpa using he
      subst this; simp
  · rw [Array.toList_push, List.map_append, List.nodup_append]
    refine ⟨h.born, by simp, ?_⟩
    intro a ha c hc hac
    obtain ⟨e, he, rfl⟩ := List.mem_map.1 ha
    have := h.young e he
    have hc2 : c = clock := by simpa using hc
    omega
  · rw [Array.toList_push, List.map_append, List.nodup_append]
    refine ⟨h.keys, by simp, ?_⟩
    intro a ha c hc hac
    obtain ⟨e, he, rfl⟩ := List.mem_map.1 ha
    have hc2 : c = x := by simpa using hc
    exact hno (e.key, e.val) (List.mem_map_of_mem he) (hac.trans hc2)
theorem kvs_push (es : Array MapEntry) (en : MapEntry) : kvs (es.push en) = kvs es ++ [(en.key, en.val)] := by simp [kvs]
theorem modify_list (f : MapEntry → MapEntry) (es : Array MapEntry) (j : Nat) : (es.modify j f).toList = es.toList.modify j f := by simp
theorem MapOK.modify (h : MapOK P k es clock) (j : Nat) (v : Value) : MapOK P k (es.modify j fun e => { e with val := v }) clock := by
  have hm : ∀ {α : Type} (g : MapEntry → α), (∀ e : MapEntry, g { e with val := v } = g e) → (es.modify j fun e => { e with val := v }).toList.map g = es.toList.map g := by
    intro α g hg
    apply List.ext_getElem?
    intro i
    rw [List.getElem?_map, List.getElem?_map, Array.getElem?_toList, Array.getElem?_toList, Array.getElem?_modify]
    split
    · cases es[i]? <;> simp [hg]
    · rfl
  have hmem : ∀ e ∈ (es.modify j fun e => { e with val := v }).toList, ∃ e' ∈ es.toList, e'.key = e.key ∧ e'.born = e.born := by
    intro e he
    have h1 : (e.key, e.born) ∈ (es.modify j fun e => { e with val := v }).toList.map (fun e => (e.key, e.born)) := List.mem_map_of_mem he
    rw [hm (fun e => (e.key, e.born)) (fun _ => rfl)] at h1
    obtain ⟨e', he', hh⟩ := List.mem_map.1 h1
    simp only [Prod.mk.injEq] at hh
    exact ⟨e', he', hh.1, hh.2⟩
  refine ⟨?_, ?_, ?_, ?_⟩
  · intro e he
    obtain ⟨e', he', h1, _⟩ := hmem e he
    rw [← h1]; exact h.keyed e' he'
  · intro e he
    obtain ⟨e', he', _, h2⟩ := hmem e he
    rw [← h2]; exact h.young e' he'
  · rw [hm (·.born) (fun _ => rfl)]; exact h.born
  · rw [hm (·.key) (fun _ => rfl)]; exact h.keys
theorem kvs_modify {j : Nat} {en : MapEntry} (hj : es[j]? = some en) (v : Value) : kvs (es.modify j fun e => { e with val := v }) = (kvs es).set j (en.key, v) := by
  apply List.ext_getElem?
  intro i
  unfold kvs
  have hjs := (Array.getElem?_eq_some_iff.1 hj).1
  rw [List.getElem?_map, Array.getElem?_toList, Array.getElem?_modify, List.getElem?_set]
  split
  · rename_i h; subst h
    have h2 := (Array.getElem?_eq_some_iff.1 hj).2
    simp [hjs, h2]
  · rw [List.getElem?_map, Array.getElem?_toList]
theorem MapOK.erase (h : MapOK P k es clock) (j : Nat) : MapOK P k (es.eraseIdxIfInBounds j) clock := by
  have hl : (es.eraseIdxIfInBounds j).toList = es.toList.eraseIdx j := by
    unfold Array.eraseIdxIfInBounds
    split
    · simp
    · rename_i hn; rw [List.eraseIdx_of_length_le (by simpa using hn)]
  refine ⟨?_, ?_, ?_, ?_⟩
  · intro e he; rw [hl] at he; exact h.keyed e (List.mem_of_mem_eraseIdx he)
  · intro e he; rw [hl] at he; exact h.young e (List.mem_of_mem_eraseIdx he)
  · rw [hl, map_erase]; exact h.born.sublist (List.eraseIdx_sublist _ _)
  · rw [hl, map_erase]; exact h.keys.sublist (List.eraseIdx_sublist _ _)
theorem kvs_erase (es : Array MapEntry) (j : Nat) : kvs (es.eraseIdxIfInBounds j) = (kvs es).eraseIdx j := by
  unfold kvs
  have hl : (es.eraseIdxIfInBounds j).toList = es.toList.eraseIdx j := by
    unfold Array.eraseIdxIfInBounds
    split
    · simp
    · rename_i hn; rw [List.eraseIdx_of_length_le (by simpa using hn)]
  rw [hl, map_erase]
end
end Go.Proofs.Ytolbbhbfbpiljaa

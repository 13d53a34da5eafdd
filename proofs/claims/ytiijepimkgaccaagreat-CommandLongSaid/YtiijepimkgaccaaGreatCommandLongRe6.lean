/- Maps whose keys are structs or arrays: what lookup, assignment and delete do to the list of their pairs. No program in sight. -/
import Derived.DeepKeys4
import Derived.MapKept
import Derived.Maps.Own
import Derived.OpenShut
import Derived.Test.YtiijepimkgaccaaGreatCommandLongRe4
import Derived.Laws.IdiomCopy
import Derived.Lib.Strings
import Derived.Lib.BitFns
set_option linter.unusedSimpArgs false
set_option linter.unusedVariables false
set_option maxRecDepth 100000
set_option maxHeartbeats 16000000
namespace Go.Proofs.YtiijepimkgaccaaGreat
open Go.WideMaps (KeyLaw)
structure MapOK (P : Program) (k : TypeId) (es : Array MapEntry) (clock : Nat) : Prop where
 keyed : ∀ e ∈ es.toList, ∃ l, keyOf P k e.key = some l
 young : ∀ e ∈ es.toList, e.born < clock
 born : (es.toList.map (·.born)).Nodup
 keys : (es.toList.map (·.key)).Nodup
def kvs (es : Array MapEntry) : List (Value × Value) := es.toList.map fun e => (e.key, e.val)
theorem kvs_length (es : Array MapEntry) : (kvs es).length = es.size := by simp [kvs]
def withBlk (w : World) (b : Nat) (o : Obj) : World := { w with heap := w.heap.setIfInBounds b o }
theorem withBlk_grown (w : World) (b : Nat) (o : Obj) : w.grownBy (withBlk w b o) (some b) :=
 ⟨rfl, rfl, rfl, by simp [withBlk], fun j _ hj => by
  unfold withBlk
  rw [Array.getElem?_setIfInBounds_ne (fun e => hj (by rw [e]))]⟩
theorem withBlk_heap {w : World} {b : Nat} {o o' : Obj} (h : w.heap[b]? = some o') : (withBlk w b o).heap[b]? = some o := by
 have hb := (Array.getElem?_eq_some_iff.1 h).1;simp [withBlk, hb]
section
variable {P : Program} {w : World} {t k e : TypeId} {es : Array MapEntry} {clock b : Nat} {x : Value} {lx : Lit}
theorem MapOK.find (K : KeyLaw P k) (h : MapOK P k es clock) (hx : keyOf P k x = some lx) (w : World) :
  ((Instr.findKey k x es.toList).run P w = .ok none w ∧ ∀ p ∈ kvs es, p.1 ≠ x) ∨ ∃ j en, (Instr.findKey k x es.toList).run P w = .ok (some (j, en.val)) w ∧ es[j]? = some en ∧ en.key = x := by
 rcases K.find w hx es.toList h.keyed with ⟨h1, h2⟩ | ⟨j, en, h1, h2, h3⟩
 ·left
  refine ⟨h1, fun p hp => ?_⟩;obtain ⟨en, hen, rfl⟩ := List.mem_map.1 hp;exact h2 en hen
 ·exact .inr ⟨j, en, h1, by simpa using h2, h3⟩
theorem MapOK.find_no (K : KeyLaw P k) (h : MapOK P k es clock) (hx : keyOf P k x = some lx) (hno : ∀ p ∈ kvs es, p.1 ≠ x) (w : World) : (Instr.findKey k x es.toList).run P w = .ok none w := by
 rcases h.find K hx w with ⟨h1, _⟩ | ⟨j, en, _, h2, h3⟩
 ·exact h1
 ·exfalso
  have : en ∈ es.toList := by simpa using Array.mem_of_getElem? h2
  exact hno (en.key, en.val) (List.mem_map_of_mem this) h3
theorem nodup_get {α : Type} {l : List α} (h : l.Nodup) {i j : Nat} {x : α} (hi : l[i]? = some x) (hj : l[j]? = some x) : i = j := by
 obtain ⟨h1, h2⟩ := List.getElem?_eq_some_iff.1 hi;obtain ⟨h3, h4⟩ := List.getElem?_eq_some_iff.1 hj;have hp := List.pairwise_iff_getElem.1 h;rcases Nat.lt_trichotomy i j with hij | hij | hij
 ·exact absurd (h2.trans h4.symm) (hp i j h1 h3 hij)
 ·exact hij
 ·exact absurd (h4.trans h2.symm) (hp j i h3 h1 hij)
theorem MapOK.find_yes (K : KeyLaw P k) (h : MapOK P k es clock) (hx : keyOf P k x = some lx) {j : Nat} {en : MapEntry} (hj : es[j]? = some en) (hk : en.key = x) (w : World) : (Instr.findKey k x es.toList).run P w = .ok (some (j, en.val)) w := by
 rcases h.find K hx w with ⟨_, h2⟩ | ⟨j', en', h1, h2, h3⟩
 ·exfalso
  have : en ∈ es.toList := by simpa using Array.mem_of_getElem? hj
  exact h2 (en.key, en.val) (List.mem_map_of_mem this) hk
 ·have e1 : (es.toList.map (·.key))[j]? = some x := by rw [List.getElem?_map]; simp [hj, hk]
  have e2 : (es.toList.map (·.key))[j']? = some x := by rw [List.getElem?_map]; simp [h2, h3]
  have := nodup_get h.keys e1 e2;subst this;rw [hj] at h2;cases h2
  exact h1
theorem run_mapEntry_no (K : KeyLaw P k) (ht : P.underlying t = some (.map k e)) (hb : w.heap[b]? = some (.map es clock)) (h : MapOK P k es clock) (hx : keyOf P k x = some lx) (hno : ∀ p ∈ kvs es, p.1 ≠ x)
  {z : Value} (hz : ∀ w, (zeroValue e).run P w = .ok z w) : (Instr.mapEntry t (.map (some b)) x).run P w = .ok (.tuple #[z, goInt clock]) (withBlk w b (.map (es.push { key := x, val := z, born := clock }) (clock + 1))) := by
 simp [Instr.mapEntry, run_underlying ht, MapKept.run_getObj_map hb, K.check w _ hx, h.find_no K hx hno w, hz, MapKept.run_setObj_map _ hb, withBlk, Result.andThen]
theorem run_entryStore (ht : P.underlying t = some (.map k e)) (hb : w.heap[b]? = some (.map es clock)) (h : MapOK P k es clock) {j : Nat} {en : MapEntry} (hj : es[j]? = some en) (v : Value) :
  (Instr.entryStore t (.map (some b)) (goInt en.born) v).run P w = .ok () (withBlk w b (.map (es.modify j fun e => { e with val := v }) clock)) := by
 have hf : es.findIdx? (fun e => (e.born : Int) == (en.born : Int)) = some j := by
  rw [Array.findIdx?_eq_some_iff_getElem];obtain ⟨h1, h2⟩ := Array.getElem?_eq_some_iff.1 hj;refine ⟨h1, by rw [h2]; simp, fun i hi hb => ?_⟩;have hb' : es[i].born = en.born := Int.ofNat_inj.1 (by simpa using hb);have e1 : (es.toList.map (·.born))[i]? = some en.born := by rw [List.getElem?_map]; simp [show i < es.size by omega, hb']
  have e2 : (es.toList.map (·.born))[j]? = some en.born := by rw [List.getElem?_map]; simp [hj]
  have := nodup_get h.born e1 e2;omega
 have ha : (asInt (goInt en.born)).run P w = .ok (en.born : Int) w := rfl;simp only [Instr.entryStore, Sem.run_bind, MapKept.run_getObj_map hb, Result.andThen_ok, Result.andThen, ha, hf, MapKept.run_setObj_map _ hb, withBlk]
theorem MapOK.empty (P : Program) (k : TypeId) (c : Nat) : MapOK P k #[] c := ⟨by simp, by simp, by simp, by simp⟩
theorem MapOK.push (h : MapOK P k es clock) (hx : keyOf P k x = some lx) (hno : ∀ p ∈ kvs es, p.1 ≠ x) (v : Value) : MapOK P k (es.push { key := x, val := v, born := clock }) (clock + 1) := by
 refine ⟨?_, ?_, ?_, ?_⟩
 ·intro e he;rw [Array.toList_push] at he;rcases List.mem_append.1 he with he | he
  ·exact h.keyed e he
  ·have : e = { key := x, val := v, born := clock } := by simpa using he
   subst this; exact ⟨lx, hx⟩
 ·intro e he;rw [Array.toList_push] at he;rcases List.mem_append.1 he with he | he
  ·have := h.young e he; omega
  ·have : e = { key := x, val := v, born := clock } := by simpa using he
   subst this; simp
 ·rw [Array.toList_push, List.map_append, List.nodup_append];refine ⟨h.born, by simp, ?_⟩;intro a ha c hc hac;obtain ⟨e, he, rfl⟩ := List.mem_map.1 ha;have := h.young e he;have hc2 : c = clock := by simpa using hc
  omega
 ·rw [Array.toList_push, List.map_append, List.nodup_append];refine ⟨h.keys, by simp, ?_⟩;intro a ha c hc hac;obtain ⟨e, he, rfl⟩ := List.mem_map.1 ha;have hc2 : c = x := by simpa using hc
  exact hno (e.key, e.val) (List.mem_map_of_mem he) (hac.trans hc2)
theorem kvs_push (es : Array MapEntry) (en : MapEntry) : kvs (es.push en) = kvs es ++ [(en.key, en.val)] := by simp [kvs]
theorem MapOK.modify (h : MapOK P k es clock) (j : Nat) (v : Value) : MapOK P k (es.modify j fun e => { e with val := v }) clock := by
 have hm : ∀ {α : Type} (g : MapEntry → α), (∀ e : MapEntry, g { e with val := v } = g e) → (es.modify j fun e => { e with val := v }).toList.map g = es.toList.map g := by
  intro α g hg
  apply List.ext_getElem?
  intro i;rw [List.getElem?_map, List.getElem?_map, Array.getElem?_toList, Array.getElem?_toList, Array.getElem?_modify];split
  ·cases es[i]? <;> simp [hg]
  ·rfl
 have hmem : ∀ e ∈ (es.modify j fun e => { e with val := v }).toList, ∃ e' ∈ es.toList, e'.key = e.key ∧ e'.born = e.born := by
  intro e he;have h1 : (e.key, e.born) ∈ (es.modify j fun e => { e with val := v }).toList.map (fun e => (e.key, e.born)) := List.mem_map_of_mem he;rw [hm (fun e => (e.key, e.born)) (fun _ => rfl)] at h1;obtain ⟨e', he', hh⟩ := List.mem_map.1 h1;simp only [Prod.mk.injEq] at hh;exact ⟨e', he', hh.1, hh.2⟩
 refine ⟨?_, ?_, ?_, ?_⟩
 ·intro e he;obtain ⟨e', he', h1, _⟩ := hmem e he;rw [← h1]; exact h.keyed e' he'
 ·intro e he;obtain ⟨e', he', _, h2⟩ := hmem e he;rw [← h2]; exact h.young e' he'
 ·rw [hm (·.born) (fun _ => rfl)]; exact h.born
 ·rw [hm (·.key) (fun _ => rfl)]; exact h.keys
theorem kvs_modify {j : Nat} {en : MapEntry} (hj : es[j]? = some en) (v : Value) : kvs (es.modify j fun e => { e with val := v }) = (kvs es).set j (en.key, v) := by
 apply List.ext_getElem?
 intro i;unfold kvs;have hjs := (Array.getElem?_eq_some_iff.1 hj).1;rw [List.getElem?_map, Array.getElem?_toList, Array.getElem?_modify, List.getElem?_set];split
 ·rename_i h; subst h;have h2 := (Array.getElem?_eq_some_iff.1 hj).2;simp [hjs, h2]
 ·rw [List.getElem?_map, Array.getElem?_toList]
end
end Go.Proofs.YtiijepimkgaccaaGreat
namespace Go.Proofs.YtiijepimkgaccaaGreat
open Go.RowKit
open Go.WideMaps (KeyLaw)
section
variable {P : Program}
theorem kl_int {t : TypeId} {k : IntKind} (ht : P.underlying t = some (.int k)) (d : Nat) (z : Int) (h : (Lit.int k z).wf = true) : ∃ l, P.keyLits (d + 1) t [.int k z] = some l := by
 unfold Program.keyLits;rw [ht];refine ⟨[.int k z], ?_⟩;show (if k = k ∧ (Lit.int k z).wf = true then some [Lit.int k z] else none) = _
 rw [if_pos ⟨rfl, h⟩]
theorem mapM_ex {α β : Type} (f : α → Option β) : ∀ (l : List α), (∀ x ∈ l, ∃ y, f x = some y) → ∃ r, l.mapM f = some r
 | [], _ => ⟨[], rfl⟩
 | x :: l, h => by
  obtain ⟨y, hy⟩ := h x (by simp);obtain ⟨r, hr⟩ := mapM_ex f l (fun z hz => h z (by simp [hz]));exact ⟨y :: r, by rw [List.mapM_cons, hy, hr]; rfl⟩
theorem kl_struct {t : TypeId} {fs : Array Field} (ht : P.underlying t = some (.struct fs)) (d : Nat) (cs : List Value) (hl : cs.length = P.cellsOf t) (hn : fs.all (·.name != "_") = true)
  (h : ∀ f ∈ fs.toList, ∃ l, P.keyLits d f.type ((cs.drop f.offset).take (P.cellsOf f.type)) = some l) : ∃ l, P.keyLits (d + 1) t cs = some l := by
 unfold Program.keyLits;rw [ht];obtain ⟨r, hr⟩ := mapM_ex _ fs.toList h;simp only;rw [if_pos ⟨hl, hn⟩, hr];exact ⟨_, rfl⟩
theorem kl_bytes {t e : TypeId} {n : Nat} (ht : P.underlying t = some (.array n e)) (he : P.underlying e = some (.int .u8)) (hce : P.cellsOf e = 1) (hct : P.cellsOf t = n) (d : Nat) (ds : List UInt8) (h : ds.length = n) : ∃ l, P.keyLits (d + 2) t (ds.map B) = some l := by
 unfold Program.keyLits;rw [ht];simp only [List.length_map, h, hct, if_true, hce, Nat.mul_one]
 obtain ⟨r, hr⟩ := mapM_ex (fun i => P.keyLits (d + 1) e (List.take 1 (List.drop i (ds.map B)))) (List.range n) (fun i hi => by
  have hi : i < n := by simpa using hi
  have e1 : List.take 1 (List.drop i (ds.map B)) = [B (ds[i]?.getD 0)] := by
   rw [List.take_one, List.head?_drop, List.getElem?_map, List.getElem?_eq_getElem (by omega)]; rfl
  rw [e1]
  exact kl_int he d (b8 (ds[i]?.getD 0)) (by have := b8_range (ds[i]?.getD 0); simp [Lit.wf, IntKind.min, IntKind.max, IntKind.signed, IntKind.bits]; omega))
 rw [hr];exact ⟨_, rfl⟩
theorem keyOf_wide {t : TypeId} (hw : (match P.underlying t with | some (.array _ _) | some (.struct _) => true | _ => false) = true) (hk : P.keyType t = true) (cs : List Value) (hf : (Value.agg cs.toArray).formed P t = true) :
  keyOf P t (.agg cs.toArray) = (P.keyLits (P.types.size + 1) t cs).map fun ls => .string (keyBytes ls) := by
 unfold keyOf
 revert hw
 cases hu : P.underlying t with
 | none => intro h; cases h
 | some d =>
  cases d
  case array => intro _; simp [hk, hf, Value.cells]
  case struct => intro _; simp [hk, hf, Value.cells]
  all_goals (intro h; cases h)
theorem formed_wide {t : TypeId} (hw : (match P.underlying t with | some (.array _ _) | some (.struct _) => true | _ => false) = true) (cs : List Value) (hl : cs.length = P.cellsOf t) : (Value.agg cs.toArray).formed P t = true := by
 unfold Value.formed
 revert hw
 cases hu : P.underlying t with
 | none => simp
 | some d => cases d <;> simp [hl]
theorem keyOf_ex {t : TypeId} (hw : (match P.underlying t with | some (.array _ _) | some (.struct _) => true | _ => false) = true) (hk : P.keyType t = true) (cs : List Value) (hl : cs.length = P.cellsOf t)
  (h : ∃ l, P.keyLits (P.types.size + 1) t cs = some l) : ∃ l, keyOf P t (.agg cs.toArray) = some l := by
 obtain ⟨l, hl2⟩ := h;rw [keyOf_wide hw hk cs (formed_wide hw cs hl), hl2];exact ⟨_, rfl⟩
theorem eql_deep {t : TypeId} (K : KeyLaw P t) {m : Nat} (hm : m ≤ 10000) (hd : P.keyTypeAt m t = true) (hw : (match P.underlying t with | some (.array _ _) | some (.struct _) => true | _ => false) = true) (hk : P.keyType t = true)
  (x y : List Value) (hx : x.length = P.cellsOf t) (hy : y.length = P.cellsOf t) (kx : ∃ l, P.keyLits (P.types.size + 1) t x = some l) (ky : ∃ l, P.keyLits (P.types.size + 1) t y = some l) :
  ∃ r : Bool, (r = true ↔ x = y) ∧ ∀ w, (Op.equalIn 10000 t (.agg x.toArray) (.agg y.toArray)).run P w = .ok r w := by
 obtain ⟨lx, hlx⟩ := keyOf_ex hw hk x hx kx;obtain ⟨ly, hly⟩ := keyOf_ex hw hk y hy ky;have hf := fun cs hl => formed_wide (P := P) (t := t) hw cs hl
 obtain ⟨l1, e1⟩ := kx;obtain ⟨l2, e2⟩ := ky
 have hall : ∀ w, ∃ r : Bool, (Op.equalIn 10000 t (.agg x.toArray) (.agg y.toArray)).run P w = .ok r w ∧ (r = true ↔ l1 = l2) := by
  intro w;have := run_equalIn_deep (P := P) (10000 - m) m t hd w _ _ (.agg x.toArray) (.agg y.toArray) l1 l2 (hf x hx) (hf y hy) (by simpa [Value.cells] using e1) (by simpa [Value.cells] using e2)
  rwa [show 10000 - m + m = 10000 by omega] at this
 have hxy : l1 = l2 ↔ x = y := by
  constructor
  ·intro h;subst h
   have k1 : keyOf P t (.agg x.toArray) = keyOf P t (.agg y.toArray) := by
    rw [keyOf_wide hw hk x (hf x hx), keyOf_wide hw hk y (hf y hy), e1, e2]
   have := K.inj hlx (k1 ▸ hlx);simpa using this
  ·intro h;subst h;rw [e1] at e2; cases e2; rfl
 by_cases h : x = y
 ·refine ⟨true, by simp [h], fun w => ?_⟩;obtain ⟨r, h1, h2⟩ := hall w;have : r = true := h2.2 (hxy.2 h);rw [h1, this]
 ·refine ⟨false, by simp [h], fun w => ?_⟩;obtain ⟨r, h1, h2⟩ := hall w
  have : r = false := by
   cases r with
   | false => rfl
   | true => exact absurd (hxy.1 (h2.1 rfl)) h
  rw [h1, this]
end
end Go.Proofs.YtiijepimkgaccaaGreat
namespace Go.Proofs.YtiijepimkgaccaaGreat
open Go.RowKit
structure Ent where
 kind : Int
 shard : Int
 tx : List UInt8
 amount : Int
 why : Int
 epoch : Int
structure Hdr where
 shard : Int
 height : Int
 epoch : Int
 prev : List UInt8
 root : List UInt8
def I64 (n : Int) : Prop := -9223372036854775808 ≤ n ∧ n ≤ 9223372036854775807
def U64 (n : Int) : Prop := 0 ≤ n ∧ n ≤ 18446744073709551615
theorem I64.wf {n : Int} (h : I64 n) : (Lit.int .i64 n).wf = true := by unfold I64 at h; simp [Lit.wf, IntKind.min, IntKind.max, IntKind.signed, IntKind.bits]; omega
theorem U64.wf {n : Int} (h : U64 n) : (Lit.int .u64 n).wf = true := by unfold U64 at h; simp [Lit.wf, IntKind.min, IntKind.max, IntKind.signed, IntKind.bits]; omega
def Ent.ok (e : Ent) : Prop := I64 e.kind ∧ I64 e.shard ∧ e.tx.length = 32 ∧ U64 e.amount ∧ I64 e.why ∧ I64 e.epoch
def Hdr.ok (h : Hdr) : Prop := I64 h.shard ∧ I64 h.height ∧ I64 h.epoch ∧ h.prev.length = 32 ∧ h.root.length = 32
def entV (e : Ent) : List Value := .int .i64 e.kind :: .int .i64 e.shard :: (e.tx.map B ++ [.int .u64 e.amount, .int .i64 e.why, .int .i64 e.epoch])
def hdrV (h : Hdr) : List Value := .int .i64 h.shard :: .int .i64 h.height :: .int .i64 h.epoch :: (h.prev.map B ++ h.root.map B)
theorem entV_length {e : Ent} (h : e.ok) : (entV e).length = 37 := by simp [entV, h.2.2.1]
theorem hdrV_length {e : Hdr} (h : e.ok) : (hdrV e).length = 67 := by simp [hdrV, h.2.2.2.1, h.2.2.2.2]
def noEnt : Ent := ⟨0, 0, List.replicate 32 0, 0, 0, 0⟩
def noHdr : Hdr := ⟨0, 0, 0, List.replicate 32 0, List.replicate 32 0⟩
theorem noEnt_ok : noEnt.ok := by simp [noEnt, Ent.ok, I64, U64]
theorem noHdr_ok : noHdr.ok := by simp [noHdr, Hdr.ok, I64]
theorem cells_entry : Tryz.prog.cellsOf 38 = 37 := by kernel_rfl
theorem cells_header : Tryz.prog.cellsOf 41 = 67 := by kernel_rfl
theorem laid_out' : laidOutB Tryz.prog = true := by kernel_rfl
theorem key_entry : WideMaps.KeyLaw Tryz.prog 38 := deep_law_laid laid_out' (m := 3) (by omega) (of_decide_eq_true (by kernel_rfl)) (by kernel_rfl) (by kernel_rfl)
theorem key_header : WideMaps.KeyLaw Tryz.prog 41 := deep_law_laid laid_out' (m := 3) (by omega) (of_decide_eq_true (by kernel_rfl)) (by kernel_rfl) (by kernel_rfl)
theorem row_entry : RowT Tryz.prog 38 37 := ⟨_, Tryz.underlying38, by kernel_rfl, by kernel_rfl⟩
theorem row_header : RowT Tryz.prog 41 67 := ⟨_, Tryz.underlying41, by kernel_rfl, by kernel_rfl⟩
theorem types_3 : ∃ n, Tryz.prog.types.size + 1 = n + 4 := ⟨Tryz.prog.types.size - 3, by kernel_rfl⟩
theorem lits_id (d : Nat) (ds : List UInt8) (h : ds.length = 32) : ∃ l, Tryz.prog.keyLits (d + 2) 32 (ds.map B) = some l :=
 kl_bytes Tryz.underlying32 Tryz.underlying5 cells_u8 cells_id d ds h
theorem lits_ent (d : Nat) (e : Ent) (h : e.ok) : ∃ l, Tryz.prog.keyLits (d + 3) 38 (entV e) = some l := by
 refine kl_struct Tryz.underlying38 _ _ (by rw [entV_length h, cells_entry]) (by kernel_rfl) ?_;obtain ⟨h1, h2, h3, h4, h5, h6⟩ := h;have e0 : (e.tx.map B).length = 32 := by rw [List.length_map, h3]
 intro f hf;simp only [List.mem_cons, List.not_mem_nil, or_false] at hf;rcases hf with rfl | rfl | rfl | rfl | rfl | rfl
 ·simp only [cells_int]; exact kl_int Tryz.underlying3 _ _ h1.wf
 ·simp only [cells_int]; exact kl_int Tryz.underlying3 _ _ h2.wf
 ·have : List.take 32 (List.drop 2 (entV e)) = e.tx.map B := by unfold entV; rw [List.drop_succ_cons, List.drop_succ_cons, List.drop_zero, List.take_append_of_le_length (by omega), List.take_of_length_le (by omega)]
  simp only [cells_id, this]; exact lits_id _ _ h3
 ·have : List.take 1 (List.drop 34 (entV e)) = [.int .u64 e.amount] := by
   unfold entV; rw [List.drop_succ_cons, List.drop_succ_cons, List.drop_append_of_le_length (by omega), List.drop_of_length_le (by omega)]; rfl
  simp only [cells_u64, this]; exact kl_int Tryz.underlying24 _ _ h4.wf
 ·have : List.take 1 (List.drop 35 (entV e)) = [.int .i64 e.why] := by
   unfold entV; rw [List.drop_succ_cons, List.drop_succ_cons, List.drop_append, e0, List.drop_of_length_le (by omega)]; rfl
  simp only [cells_int, this]; exact kl_int Tryz.underlying3 _ _ h5.wf
 ·have : List.take 1 (List.drop 36 (entV e)) = [.int .i64 e.epoch] := by
   unfold entV; rw [List.drop_succ_cons, List.drop_succ_cons, List.drop_append, e0, List.drop_of_length_le (by omega)]; rfl
  simp only [cells_int, this]; exact kl_int Tryz.underlying3 _ _ h6.wf
theorem lits_hdr (d : Nat) (e : Hdr) (h : e.ok) : ∃ l, Tryz.prog.keyLits (d + 3) 41 (hdrV e) = some l := by
 refine kl_struct Tryz.underlying41 _ _ (by rw [hdrV_length h, cells_header]) (by kernel_rfl) ?_;obtain ⟨h1, h2, h3, h4, h5⟩ := h;have e0 : (e.prev.map B).length = 32 := by rw [List.length_map, h4]
 have e1 : (e.root.map B).length = 32 := by rw [List.length_map, h5]
 intro f hf;simp only [List.mem_cons, List.not_mem_nil, or_false] at hf;rcases hf with rfl | rfl | rfl | rfl | rfl
 ·simp only [cells_int]; exact kl_int Tryz.underlying3 _ _ h1.wf
 ·simp only [cells_int]; exact kl_int Tryz.underlying3 _ _ h2.wf
 ·simp only [cells_int]; exact kl_int Tryz.underlying3 _ _ h3.wf
 ·have : List.take 32 (List.drop 3 (hdrV e)) = e.prev.map B := by unfold hdrV; rw [List.drop_succ_cons, List.drop_succ_cons, List.drop_succ_cons, List.drop_zero, List.take_append_of_le_length (by omega), List.take_of_length_le (by omega)]
  simp only [cells_id, this]; exact lits_id _ _ h4
 ·have : List.take 32 (List.drop 35 (hdrV e)) = e.root.map B := by
   unfold hdrV; rw [List.drop_succ_cons, List.drop_succ_cons, List.drop_succ_cons, List.drop_append_of_le_length (by omega), List.drop_of_length_le (by omega), List.nil_append, List.take_of_length_le (by omega)]
  simp only [cells_id, this]; exact lits_id _ _ h5
theorem ewithin_any (n lo hi : Int) (w : World) : Calls Tryz.prog 102 #[.int .i64 n, .int .i64 lo, .int .i64 hi] w fun e w' => e = .returned (.bool (decide (lo ≤ n) && decide (n ≤ hi))) ∧ w = w' := by
 by_cases h : lo ≤ n
 ·rw [show decide (lo ≤ n) = true by simpa using h, Bool.true_and]
  go_enter Tryz.func102, Tryz.ntmps102
  go_wp2
  go_ret
  exact ⟨rfl, rfl⟩
 ·rw [show decide (lo ≤ n) = false by simpa using h, Bool.false_and];have h2 : decide (lo ≤ n) = false := by simpa using h
  go_enter Tryz.func102, Tryz.ntmps102
  go_wp2
  go_ret
  exact ⟨rfl, rfl⟩
theorem hwithin_any (n lo hi : Int) (w : World) : Calls Tryz.prog 103 #[.int .i64 n, .int .i64 lo, .int .i64 hi] w fun e w' => e = .returned (.bool (decide (lo ≤ n) && decide (n ≤ hi))) ∧ w = w' := by
 by_cases h : lo ≤ n
 ·rw [show decide (lo ≤ n) = true by simpa using h, Bool.true_and]
  go_enter Tryz.func103, Tryz.ntmps103
  go_wp2
  go_ret
  exact ⟨rfl, rfl⟩
 ·rw [show decide (lo ≤ n) = false by simpa using h, Bool.false_and];have h2 : decide (lo ≤ n) = false := by simpa using h
  go_enter Tryz.func103, Tryz.ntmps103
  go_wp2
  go_ret
  exact ⟨rfl, rfl⟩
def inB (n lo hi : Int) : Bool := decide (lo ≤ n) && decide (n ≤ hi)
def rightE (e : Ent) : Bool := inB e.kind 1 3 && inB e.shard 0 63 && decide (e.amount ≤ 4611686018427387904) && inB e.why 0 63 && inB e.epoch 0 1099511627776
def rightH (h : Hdr) : Bool := inB h.shard 0 63 && inB h.height 1 1099511627776 && inB h.epoch 0 1099511627776
def zeroEnt : Array Value := #[.int .i64 0, .int .i64 0, .int .u8 0, .int .u8 0, .int .u8 0, .int .u8 0, .int .u8 0, .int .u8 0, .int .u8 0, .int .u8 0, .int .u8 0, .int .u8 0, .int .u8 0, .int .u8 0, .int .u8 0, .int .u8 0, .int .u8 0, .int .u8 0, .int .u8 0, .int .u8 0, .int .u8 0, .int .u8 0, .int .u8 0, .int .u8 0, .int .u8 0, .int .u8 0, .int .u8 0, .int .u8 0, .int .u8 0, .int .u8 0, .int .u8 0, .int .u8 0, .int .u8 0, .int .u8 0, .int .u64 0, .int .i64 0, .int .i64 0]
def zeroHdr : Array Value := #[.int .i64 0, .int .i64 0, .int .i64 0, .int .u8 0, .int .u8 0, .int .u8 0, .int .u8 0, .int .u8 0, .int .u8 0, .int .u8 0, .int .u8 0, .int .u8 0, .int .u8 0, .int .u8 0, .int .u8 0, .int .u8 0, .int .u8 0, .int .u8 0, .int .u8 0, .int .u8 0, .int .u8 0, .int .u8 0, .int .u8 0, .int .u8 0, .int .u8 0, .int .u8 0, .int .u8 0, .int .u8 0, .int .u8 0, .int .u8 0, .int .u8 0, .int .u8 0, .int .u8 0, .int .u8 0, .int .u8 0, .int .u8 0, .int .u8 0, .int .u8 0, .int .u8 0, .int .u8 0, .int .u8 0, .int .u8 0, .int .u8 0, .int .u8 0, .int .u8 0, .int .u8 0, .int .u8 0, .int .u8 0, .int .u8 0, .int .u8 0, .int .u8 0, .int .u8 0, .int .u8 0, .int .u8 0, .int .u8 0, .int .u8 0, .int .u8 0, .int .u8 0, .int .u8 0, .int .u8 0, .int .u8 0, .int .u8 0, .int .u8 0, .int .u8 0, .int .u8 0, .int .u8 0, .int .u8 0]
theorem zeroEnt_eq : (entV noEnt).toArray = zeroEnt := rfl
theorem zeroHdr_eq : (hdrV noHdr).toArray = zeroHdr := rfl
theorem ent_at {e : Ent} (h : e.ok) : (entV e)[0]? = some (.int .i64 e.kind) ∧ (entV e)[1]? = some (.int .i64 e.shard) ∧ (entV e)[34]? = some (.int .u64 e.amount) ∧ (entV e)[35]? = some (.int .i64 e.why) ∧ (entV e)[36]? = some (.int .i64 e.epoch) := by
 have e0 : (e.tx.map B).length = 32 := by rw [List.length_map, h.2.2.1]
 refine ⟨rfl, rfl, ?_, ?_, ?_⟩
 all_goals
  unfold entV;rw [List.getElem?_cons_succ, List.getElem?_cons_succ, List.getElem?_append_right (by omega), e0]
  rfl
theorem eright_any (e : Ent) (w : World) (h : e.ok) : Calls Tryz.prog 85 #[.agg (entV e).toArray] w fun en w' => en = .returned (.bool (rightE e)) ∧ Below w.heap.size w w' := by
 obtain ⟨n4, hn4⟩ := types_3;obtain ⟨r, hr, hq⟩ := eql_deep key_entry (m := 3) (by omega) (by kernel_rfl) (by kernel_rfl) (by kernel_rfl) (entV e) (entV noEnt) (by rw [entV_length h, cells_entry]) (by rw [entV_length noEnt_ok, cells_entry]) (by rw [hn4]; exact lits_ent (n4 + 1) e h) (by rw [hn4]; exact lits_ent (n4 + 1) noEnt noEnt_ok);rw [zeroEnt_eq] at hq;unfold zeroEnt at hq
 have hz : r = true → rightE e = false := by
  intro h1;have h2 := hr.1 h1
  have h3 : e.kind = 0 := by
   have := congrArg List.head? h2;simpa [entV, noEnt] using this
  unfold rightE inB;rw [h3]; rfl
 obtain ⟨a1, a2, a3, a4, a5⟩ := ent_at h;have HL := kp (entV_length h);obtain ⟨xs, hxs⟩ := xe (entV e);rw [← hxs] at hq a1 a2 a3 a4 a5 HL ⊢;have HZ := kp hz;have A1 := kp a1; have A2 := kp a2; have A3 := kp a3; have A4 := kp a4; have A5 := kp a5;obtain ⟨res, hres⟩ := xe (rightE e);rw [← hres];have HRES := kp hres;obtain ⟨g, hg⟩ := xe w.heap.size;have HG := kp hg;clear hz a1 a2 a3 a4 a5 hr hxs hres hg h hn4
 go_enter Tryz.func85, Tryz.ntmps85
 go_wp2_with (with_reducible refine wbx 1 ?_);intro w1 hb1 hbw1 hsz1;rw [← HG.o] at hb1 hbw1 hsz1 ⊢;have H1 := kp hb1;have HB := kp hbw1;clear hb1 hbw1 hsz1;have c0 := H1.o.at_ A1.o;have c1 := H1.o.at_ A2.o;have c2 := H1.o.at_ A3.o;have c3 := H1.o.at_ A4.o;have c4 := H1.o.at_ A5.o;have w1' := fun w => ewithin_any e.kind 1 3 w
 have w2' := fun w => ewithin_any e.shard 0 63 w
 have w4' := fun w => ewithin_any e.why 0 63 w
 have w5' := fun w => ewithin_any e.epoch 0 1099511627776 w
 have HRE : Hid (res = (inB e.kind 1 3 && inB e.shard 0 63 && decide (e.amount ≤ 4611686018427387904) && inB e.why 0 63 && inB e.epoch 0 1099511627776)) := HRES;obtain ⟨b1, hb1⟩ := xe (inB e.kind 1 3);obtain ⟨b2, hb2⟩ := xe (inB e.shard 0 63);obtain ⟨b4, hb4⟩ := xe (inB e.why 0 63);obtain ⟨b5, hb5⟩ := xe (inB e.epoch 0 1099511627776);rw [← hb1, ← hb2, ← hb4, ← hb5] at HRE;have W1 := kq (∀ w, Calls Tryz.prog 102 #[.int .i64 e.kind, .int .i64 1, .int .i64 3] w fun en w' => en = .returned (.bool b1) ∧ w = w') (by rw [hb1]; exact w1');have W2 := kq (∀ w, Calls Tryz.prog 102 #[.int .i64 e.shard, .int .i64 0, .int .i64 63] w fun en w' => en = .returned (.bool b2) ∧ w = w') (by rw [hb2]; exact w2');have W4 := kq (∀ w, Calls Tryz.prog 102 #[.int .i64 e.why, .int .i64 0, .int .i64 63] w fun en w' => en = .returned (.bool b4) ∧ w = w') (by rw [hb4]; exact w4');have W5 := kq (∀ w, Calls Tryz.prog 102 #[.int .i64 e.epoch, .int .i64 0, .int .i64 1099511627776] w fun en w' => en = .returned (.bool b5) ∧ w = w') (by rw [hb5]; exact w5');clear hb1 hb2 hb4 hb5 w1' w2' w4' w5';generalize e.kind = k1 at *;generalize e.shard = k2 at *;generalize e.amount = k3 at *;generalize e.why = k4 at *;generalize e.epoch = k5 at *;cases r
 ·clear HZ HRES;cases b1
  ·go_wp2_with (with_reducible refine wlb 3 row_entry H1.o HL.o ?_);go_wp2_with fail;refine (W1.o _).mono ?_;rintro e w_ ⟨rfl, rfl⟩;go_wp2_with fail;go_ret
   exact ⟨ret_bool (by rw [HRE.o]; rfl), by rw [← HG.o]; exact HB.o⟩
  cases b2
  ·go_wp2_with (with_reducible refine wlb 3 row_entry H1.o HL.o ?_);go_wp2_with fail;refine (W1.o _).mono ?_;rintro e w_ ⟨rfl, rfl⟩;go_wp2_with fail;refine (W2.o _).mono ?_;rintro e w_ ⟨rfl, rfl⟩;go_wp2_with fail;go_ret
   exact ⟨ret_bool (by rw [HRE.o]; rfl), by rw [← HG.o]; exact HB.o⟩
  by_cases h3 : k3 ≤ 4611686018427387904
  ·have d3 : decide (k3 ≤ 4611686018427387904) = true := by simpa using h3
   rw [d3] at HRE;cases b4
   ·go_wp2_with (with_reducible refine wlb 3 row_entry H1.o HL.o ?_);go_wp2_with fail;refine (W1.o _).mono ?_;rintro e w_ ⟨rfl, rfl⟩;go_wp2_with fail;refine (W2.o _).mono ?_;rintro e w_ ⟨rfl, rfl⟩;go_wp2_with fail;refine (W4.o _).mono ?_;rintro e w_ ⟨rfl, rfl⟩;go_wp2_with fail;go_ret
    exact ⟨ret_bool (by rw [HRE.o]; rfl), by rw [← HG.o]; exact HB.o⟩
   ·go_wp2_with (with_reducible refine wlb 3 row_entry H1.o HL.o ?_);go_wp2_with fail;refine (W1.o _).mono ?_;rintro e w_ ⟨rfl, rfl⟩;go_wp2_with fail;refine (W2.o _).mono ?_;rintro e w_ ⟨rfl, rfl⟩;go_wp2_with fail;refine (W4.o _).mono ?_;rintro e w_ ⟨rfl, rfl⟩;go_wp2_with fail;refine (W5.o _).mono ?_;rintro e w_ ⟨rfl, rfl⟩;go_wp2_with fail;go_ret
    exact ⟨ret_bool (by rw [HRE.o]; simp), by rw [← HG.o]; exact HB.o⟩
  ·have d3 : decide (k3 ≤ 4611686018427387904) = false := by simpa using h3
   rw [d3] at HRE;go_wp2_with (with_reducible refine wlb 3 row_entry H1.o HL.o ?_);go_wp2_with fail;refine (W1.o _).mono ?_;rintro e w_ ⟨rfl, rfl⟩;go_wp2_with fail;refine (W2.o _).mono ?_;rintro e w_ ⟨rfl, rfl⟩;go_wp2_with fail;go_ret
   exact ⟨ret_bool (by rw [HRE.o]; simp), by rw [← HG.o]; exact HB.o⟩
 ·have hf : res = false := HRES.o.trans (by simpa using HZ.o);have HF := kp hf;clear hf;go_wp2_with (with_reducible refine wlb 3 row_entry H1.o HL.o ?_);go_ret
  exact ⟨ret_bool (by rw [HF.o]), by rw [← HG.o]; exact HB.o⟩
theorem zeroV_of {P : Program} {t : TypeId} {zs : Array Value} (h : (P.info? t).map (·.zero) = some (some (.agg zs))) (w : World) : (zeroValue t).run P w = .ok (.agg zs) w := by
 obtain ⟨i, hi, hz⟩ := Option.map_eq_some_iff.1 h;simp [zeroValue, typeInfo, hi, hz]
theorem zero_hdr : (Tryz.prog.info? 41).map (·.zero) = some (some (.agg zeroHdr)) := by kernel_rfl
theorem hdr_at {e : Hdr} (h : e.ok) : (hdrV e)[0]? = some (.int .i64 e.shard) ∧ (hdrV e)[1]? = some (.int .i64 e.height) ∧ (hdrV e)[2]? = some (.int .i64 e.epoch) := ⟨rfl, rfl, rfl⟩
theorem hright_any (e : Hdr) (w : World) (h : e.ok) : Calls Tryz.prog 86 #[.agg (hdrV e).toArray] w fun en w' => en = .returned (.bool (rightH e)) ∧ Below w.heap.size w w' := by
 obtain ⟨n4, hn4⟩ := types_3;obtain ⟨r, hr, hq⟩ := eql_deep key_header (m := 3) (by omega) (by kernel_rfl) (by kernel_rfl) (by kernel_rfl) (hdrV e) (hdrV noHdr) (by rw [hdrV_length h, cells_header]) (by rw [hdrV_length noHdr_ok, cells_header]) (by rw [hn4]; exact lits_hdr (n4 + 1) e h) (by rw [hn4]; exact lits_hdr (n4 + 1) noHdr noHdr_ok);rw [zeroHdr_eq] at hq;have hzv := fun w => zeroV_of zero_hdr w
 unfold zeroHdr at hq hzv
 have hz : r = true → rightH e = false := by
  intro h1;have h2 := hr.1 h1
  have h3 : e.height = 0 := by
   have := congrArg (fun l => l[1]?) h2;simpa [hdrV, noHdr] using this
  unfold rightH inB;rw [h3]; simp
 obtain ⟨a1, a2, a3⟩ := hdr_at h;have HL := kp (hdrV_length h);obtain ⟨xs, hxs⟩ := xe (hdrV e);rw [← hxs] at hq a1 a2 a3 HL ⊢;have HZ := kp hz;have A1 := kp a1; have A2 := kp a2; have A3 := kp a3;obtain ⟨res, hres⟩ := xe (rightH e);rw [← hres];have HRES := kp hres;obtain ⟨g, hg⟩ := xe w.heap.size;have HG := kp hg;clear hz a1 a2 a3 hr hxs hres hg h hn4
 go_enter Tryz.func86, Tryz.ntmps86
 go_wp2_with (with_reducible refine wbx 1 ?_);intro w1 hb1 hbw1 hsz1;rw [← HG.o] at hb1 hbw1 hsz1 ⊢;have H1 := kp hb1;have HB := kp hbw1;clear hb1 hbw1 hsz1;have c0 := H1.o.at_ A1.o;have c1 := H1.o.at_ A2.o;have c2 := H1.o.at_ A3.o;have w1' := fun w => hwithin_any e.shard 0 63 w
 have w2' := fun w => hwithin_any e.height 1 1099511627776 w
 have w3' := fun w => hwithin_any e.epoch 0 1099511627776 w
 have HRE : Hid (res = (inB e.shard 0 63 && inB e.height 1 1099511627776 && inB e.epoch 0 1099511627776)) := HRES;obtain ⟨b1, hb1⟩ := xe (inB e.shard 0 63);obtain ⟨b2, hb2⟩ := xe (inB e.height 1 1099511627776);obtain ⟨b3, hb3⟩ := xe (inB e.epoch 0 1099511627776);rw [← hb1, ← hb2, ← hb3] at HRE;have W1 := kq (∀ w, Calls Tryz.prog 103 #[.int .i64 e.shard, .int .i64 0, .int .i64 63] w fun en w' => en = .returned (.bool b1) ∧ w = w') (by rw [hb1]; exact w1');have W2 := kq (∀ w, Calls Tryz.prog 103 #[.int .i64 e.height, .int .i64 1, .int .i64 1099511627776] w fun en w' => en = .returned (.bool b2) ∧ w = w') (by rw [hb2]; exact w2');have W3 := kq (∀ w, Calls Tryz.prog 103 #[.int .i64 e.epoch, .int .i64 0, .int .i64 1099511627776] w fun en w' => en = .returned (.bool b3) ∧ w = w') (by rw [hb3]; exact w3');clear hb1 hb2 hb3 w1' w2' w3';generalize e.shard = k1 at *;generalize e.height = k2 at *;generalize e.epoch = k3 at *;cases r
 ·clear HZ HRES;cases b1
  ·go_wp2_with (with_reducible refine wlb 3 row_header H1.o HL.o ?_);go_wp2_with fail;refine (W1.o _).mono ?_;rintro e w_ ⟨rfl, rfl⟩;go_wp2_with fail;go_ret
   exact ⟨ret_bool (by rw [HRE.o]; rfl), by rw [← HG.o]; exact HB.o⟩
  cases b2
  ·go_wp2_with (with_reducible refine wlb 3 row_header H1.o HL.o ?_);go_wp2_with fail;refine (W1.o _).mono ?_;rintro e w_ ⟨rfl, rfl⟩;go_wp2_with fail;refine (W2.o _).mono ?_;rintro e w_ ⟨rfl, rfl⟩;go_wp2_with fail;go_ret
   exact ⟨ret_bool (by rw [HRE.o]; rfl), by rw [← HG.o]; exact HB.o⟩
  ·go_wp2_with (with_reducible refine wlb 3 row_header H1.o HL.o ?_);go_wp2_with fail;refine (W1.o _).mono ?_;rintro e w_ ⟨rfl, rfl⟩;go_wp2_with fail;refine (W2.o _).mono ?_;rintro e w_ ⟨rfl, rfl⟩;go_wp2_with fail;refine (W3.o _).mono ?_;rintro e w_ ⟨rfl, rfl⟩;go_wp2_with fail;go_ret
   exact ⟨ret_bool (by rw [HRE.o]; simp), by rw [← HG.o]; exact HB.o⟩
 ·have hf : res = false := HRES.o.trans (by simpa using HZ.o);have HF := kp hf;clear hf;go_wp2_with (with_reducible refine wlb 3 row_header H1.o HL.o ?_);go_ret
  exact ⟨ret_bool (by rw [HF.o]), by rw [← HG.o]; exact HB.o⟩
open Go.RowKit Go.Shelf
theorem Dig.at_ {xs : List Value} {d : List UInt8} (h : Dig xs d) {k : Nat} (hk : k < 32) : ∃ x : UInt8, xs[k]? = some (.int .u8 (b8 x)) ∧ d[k]? = some x := by
 have hl := h.2;refine ⟨d[k]'(by omega), ?_, List.getElem?_eq_getElem (by omega)⟩;rw [h.1, List.getElem?_map, List.getElem?_eq_getElem (by omega)]; rfl
theorem tbytes_any {xs : List Value} {d : List UInt8} (hx : Dig xs d) (w : World) :
  Calls Tryz.prog 29 #[.agg xs.toArray] w fun e w' => ∃ A' c', e = .returned (.slice A' 32 c') ∧ Sl w' w'.heap.size 1 A' 32 (d.map B) ∧ 32 ≤ c' ∧ Below w.heap.size w w' := by
 have HD := kp hx;have HB := kp (Below.refl w.heap.size w);clear hx
 go_enter Tryz.func29, Tryz.ntmps29
 go_wp2_with (with_reducible refine wbx 1 ?_);intro v_ b_ y_ hsz2_;have HX_ := kp (at_mk b_ HD.o.len);clear b_ hsz2_;replace HB := kp (HB.o.grow' y_);have HX := HX_;clear y_ HX_;try clear w_
 rename World => w_;go_wp2_with fail;go_loopw [3, 4] (fun v i wr => ∃ k : Nat, ∃ A' c', k ≤ 32 ∧ i = .int .i64 k ∧ v = .slice A' k c' ∧ Hid (wr.ownsRow (w.heap.size + 1) 5 1 (.slice A' k c') k (xs.take k)) ∧ Hid (Below w.heap.size w wr) ∧ Hid (At wr w.heap.size 32 32 xs)) (fun _ i _ => 32 - (intOf i).toNat)
 case atStart => exact ⟨0, none, 0, by omega, rfl, rfl, kp (by simpa using World.ownsRow_nil _ _ _ _), HB, HX⟩
 case round =>
  obtain ⟨k, A3, c3, hk, rfl, rfl, hown, hbw, hat⟩ := hrel;clear HB HX;by_cases hlt : k < 32
  ·obtain ⟨x, hx, _⟩ := HD.o.at_ hlt;have hc := hat.o.blk.at_ hx;have HXK := kp hx;clear hx;go_wp2_with (at_builtin; refine wpl_app1 rfl rfl el_u8 hown.o rfl (m := 1) rfl rfl ?_ ?_ ?_ ?_ ?_)
   ·rfl
   ·omega
   ·omega
   ·have := hat.o.lt; omega
   ·intro A4 c4 w4 ho hg hA;have HO := kq (w4.ownsRow (w.heap.size + 1) 5 1 (.slice A4 (k + 1) c4) (k + 1) (xs.take (k + 1))) (by rw [List.take_add_one, HXK.o]; exact ho);have HB := kq (Below w.heap.size w w4) (hbw.o.grown hg hbw.o.size (fun g hg => by have := own_from hown.o g hg; omega));have HX := kp (at_mk (hat.o.blk.grown hg (by intro hh; have := own_from hown.o _ hh.symm; omega)) hat.o.len);clear ho hg hA hc;go_wp2_with fail;go_roundw
    case rel => exact ⟨k + 1, A4, c4, by omega, by go_num, rfl, HO, HB, HX⟩
    case measure => simp [intOf]; omega
  ·obtain rfl : k = 32 := by omega
   have e : xs.take 32 = d.map B := by rw [List.take_of_length_le (by rw [HD.o.len]; exact Nat.le_refl _), HD.o.1]
   have HO := kp (e ▸ hown.o);clear e;have HC := kp (own_form hown.o (by omega));go_wp2_with fail;go_ret
   exact ⟨A3, c3, rfl, Sl.of_own HO.o, (by obtain ⟨g, _, _, _, h⟩ := HC.o; exact h), hbw.o⟩
def padB (key : List UInt8) : List UInt8 := (if 64 < key.length then sha key else key) ++ List.replicate (64 - (if 64 < key.length then sha key else key).length) 0
theorem padB_length (key : List UInt8) : (padB key).length = 64 := by
 unfold padB;have := sha_length key;split <;> simp <;> omega
def longB (bs : List UInt8) : List UInt8 := beBytes bs.length 4 ++ bs
def underB (m : UInt8) (ls : List (List UInt8)) : List UInt8 := m :: ls.flatMap longB
theorem underB_snoc (m : UInt8) (ls : List (List UInt8)) (x : List UInt8) : underB m (ls ++ [x]) = underB m ls ++ (beBytes x.length 4 ++ x) := by
 unfold underB; rw [List.flatMap_append]; simp [longB]
theorem info_su8 : (Tryz.prog.info? 46).map (fun i => (i.zero, i.size, i.bytes)) = some (some (.slice none 0 0), 1, 24) := by kernel_rfl
theorem el_su8 : ElemT Tryz.prog 64 46 1 24 := elemT Tryz.underlying64 info_su8 rfl (by omega)
attribute [irreducible] underB longB
def halfN (n : Nat) : Nat := 2 ^ Nat.log2 (n - 1)
theorem halfN_lt {n : Nat} (h : 2 ≤ n) : halfN n < n := by
 unfold halfN;have := Nat.log2_self_le (n := n - 1) (by omega);omega
theorem halfN_pos (n : Nat) : 0 < halfN n := Nat.two_pow_pos _
theorem halfN_of {n j : Nat} (h1 : 2 ^ j < n) (h2 : n ≤ 2 * 2 ^ j) : halfN n = 2 ^ j := by
 unfold halfN;have : (n - 1).log2 = j := (Nat.log2_eq_iff (by omega)).2 ⟨by omega, by rw [Nat.pow_succ]; omega⟩;rw [this]
theorem half_any (n : Nat) (w : World) (h1 : 2 ≤ n) (h2 : n ≤ 16777216) :
  Calls Tryz.prog 47 #[.int .i64 n] w fun e w' => e = .returned (.int .i64 (halfN n)) ∧ w' = w := by
 go_enter Tryz.func47, Tryz.ntmps47
 go_wp2_with fail
 go_loop [3] (fun v => ∃ p : Nat, v = .int .i64 p ∧ p < n ∧ 1 ≤ p ∧ Hid (∃ j, p = 2 ^ j)) (fun v => n - (intOf v).toNat)
 case atStart => exact ⟨1, rfl, by omega, by omega, kp ⟨0, rfl⟩⟩
 case round =>
  obtain ⟨p, rfl, hp, hp1, hj⟩ := hrel;by_cases hlt : 2 * p < n
  ·go_wp2_with fail
   go_round
   case rel => exact ⟨2 * p, by go_num, by omega, by omega, kp (by obtain ⟨j, h⟩ := hj.o; exact ⟨j + 1, by rw [Nat.pow_succ]; omega⟩)⟩
   case measure => simp [intOf]; omega
  ·have HH := kq (halfN n = p) (by obtain ⟨j, h⟩ := hj.o; rw [h]; exact halfN_of (by omega) (by omega));go_wp2_with fail;go_ret
   exact ⟨by rw [HH.o]; rfl, rfl⟩
def leafB (b : List UInt8) : List UInt8 := sha (underB 1 [b])
def nodeB (a b : List UInt8) : List UInt8 := sha (underB 2 [a, b])
def noneB : List UInt8 := sha (underB 0 [])
theorem leafB_len (b : List UInt8) : (leafB b).length = 32 := sha_length _
theorem nodeB_len (a b : List UInt8) : (nodeB a b).length = 32 := sha_length _
theorem noneB_len : noneB.length = 32 := sha_length _
end Go.Proofs.YtiijepimkgaccaaGreat

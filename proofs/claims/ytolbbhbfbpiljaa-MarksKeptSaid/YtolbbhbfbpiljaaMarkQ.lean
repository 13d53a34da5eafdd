/- What pruning marks makes: plain laws, and what a walk of marks.Prune asks of the map. -/
import Derived.Test.YtolbbhbfbpiljaaMarkP
namespace Go.Proofs.Ytolbbhbfbpiljaa
open Go.RowKit Go.Maps Go.Sort Go.Shelf
set_option linter.unusedVariables false
def isOldM (ep : Int) (e : MKey × Mrk) : Bool := oldB e.2.expiry ep
/-- What stays. -/
def keptM (ep : Int) (L : MarksL) : MarksL := L.filter fun e => !isOldM ep e
def dropM (L : MarksL) (p : MKey) : MarksL := L.eraseP fun e => e.1 == p
def pruneS (ep : Int) (s : MarksL × Nat) (k : KeyS) : MarksL × Nat := if oldB ((lookM s.1 k.1).getD noMrk).expiry ep then (dropM s.1 k.1, s.2 + 1) else s
theorem dropM_filter : ∀ (L : MarksL) (p : MKey), (L.map (·.1)).Nodup → dropM L p = L.filter fun e => !(e.1 == p)
  | [], p, _ => rfl
  | e :: L, p, h => by
    rw [List.map_cons, List.nodup_cons] at h
    unfold dropM
    by_cases he : (e.1 == p) = true
    · rw [List.eraseP_cons_of_pos (p := fun e : MKey × Mrk => e.1 == p) he, List.filter_cons_of_neg (by simp only [he]; decide)]
      refine (List.filter_eq_self.2 fun x hx => ?_).symm
      have : x.1 ≠ p := fun hxp => h.1 (by rw [eq_of_beq he, ← hxp]; exact List.mem_map_of_mem hx)
      simp [this]
    · rw [List.eraseP_cons_of_neg (p := fun e : MKey × Mrk => e.1 == p) he, List.filter_cons_of_pos (by simp only [Bool.eq_false_iff.2 he]; decide)]
      congr 1
      exact dropM_filter L p h.2
theorem lookM_mem {L : MarksL} {e : MKey × Mrk} (h : e ∈ L) (hd : (L.map (·.1)).Nodup) : lookM L e.1 = some e.2 := by
  unfold lookM
  induction L with
  | nil => cases h
  | cons x L ih =>
    rw [List.map_cons, List.nodup_cons] at hd
    by_cases hx : (x.1 == e.1) = true
    · rw [List.find?_cons_of_pos (by exact hx)]
      rcases List.mem_cons.1 h with rfl | h2
      · rfl
      · exact absurd (List.mem_map_of_mem (f := fun x : MKey × Mrk => x.1) h2) (by show e.1 ∉ _; rw [← eq_of_beq hx]; exact hd.1)
    · rw [List.find?_cons_of_neg (by simpa using hx)]
      rcases List.mem_cons.1 h with rfl | h2
      · simp at hx
      · exact ih h2 hd.2
theorem prune_fold (ep : Int) : ∀ (ks : List KeyS) (L : MarksL) (c : Nat), (ks.map (·.1)).Nodup → (∀ k ∈ ks, k.1 ∈ L.map (·.1)) → (L.map (·.1)).Nodup →
    (ks.foldl (pruneS ep) (L, c)).1 = L.filter (fun e => !(isOldM ep e && decide (e.1 ∈ ks.map (·.1)))) ∧ (ks.foldl (pruneS ep) (L, c)).2 + (ks.foldl (pruneS ep) (L, c)).1.length = c + L.length
  | [], L, c, _, _, _ => ⟨(List.filter_eq_self.2 (by simp)).symm, rfl⟩
  | k :: ks, L, c, h1, h2, h3 => by
    rw [List.map_cons, List.nodup_cons] at h1
    obtain ⟨e, he, hek⟩ := List.mem_map.1 (h2 k (by simp))
    have hl : lookM L k.1 = some e.2 := by rw [← hek]; exact lookM_mem he h3
    rw [List.foldl_cons]
    by_cases ho : isOldM ep e = true
    · have hs : pruneS ep (L, c) k = (dropM L k.1, c + 1) := by unfold pruneS; rw [hl]; exact if_pos ho
      rw [hs]
      have hf := dropM_filter L k.1 h3
      have hn3 : ((dropM L k.1).map (·.1)).Nodup := by rw [hf]; exact h3.sublist (List.filter_sublist.map _)
      have hm3 : ∀ k' ∈ ks, k'.1 ∈ (dropM L k.1).map (·.1) := fun k' hk' => by
        obtain ⟨e', he', hee'⟩ := List.mem_map.1 (h2 k' (by simp [hk']))
        rw [hf]
        refine List.mem_map.2 ⟨e', List.mem_filter.2 ⟨he', ?_⟩, hee'⟩
        have : e'.1 ≠ k.1 := fun hh => h1.1 (by rw [← hh, hee']; exact List.mem_map_of_mem (f := fun x : KeyS => x.1) hk')
        simp [this]
      obtain ⟨r1, r2⟩ := prune_fold ep ks (dropM L k.1) (c + 1) h1.2 hm3 hn3
      refine ⟨?_, ?_⟩
      · rw [r1, hf, List.filter_filter]
        refine List.filter_congr fun x hx => ?_
        by_cases hxk : x.1 = k.1
        · have hxe : x = e := by
            have a1 := lookM_mem hx h3
            have a2 := lookM_mem he h3
            rw [hxk, ← hek, a2] at a1
            exact Prod.ext (hxk.trans hek.symm) (by injection a1 with a1; exact a1.symm)
          rw [hxe, ho]; simp [hek]
        · have hm : (x.1 ∈ (k :: ks).map (·.1)) ↔ x.1 ∈ ks.map (·.1) := by rw [List.map_cons, List.mem_cons]; exact ⟨fun h => h.resolve_left hxk, .inr⟩
          rw [show decide (x.1 ∈ (k :: ks).map (·.1)) = decide (x.1 ∈ ks.map (·.1)) from decide_eq_decide.2 hm]
          simp [hxk]
      · rw [r2]
        have : (dropM L k.1).length + 1 = L.length := by
          unfold dropM
          rw [List.length_eraseP_of_mem he (by simpa using hek)]
          have := List.length_pos_of_mem he
          omega
        omega
    · have hs : pruneS ep (L, c) k = (L, c) := by unfold pruneS; rw [hl]; exact if_neg ho
      rw [hs]
      obtain ⟨r1, r2⟩ := prune_fold ep ks L c h1.2 (fun k' hk' => h2 k' (by simp [hk'])) h3
      refine ⟨?_, r2⟩
      rw [r1]
      refine List.filter_congr fun x hx => ?_
      by_cases hxk : x.1 = k.1
      · have hxe : x = e := by
          have a1 := lookM_mem hx h3
          have a2 := lookM_mem he h3
          rw [hxk, ← hek, a2] at a1
          exact Prod.ext (hxk.trans hek.symm) (by injection a1 with a1; exact a1.symm)
        rw [hxe, Bool.eq_false_iff.2 ho]; simp
      · have hm : (x.1 ∈ (k :: ks).map (·.1)) ↔ x.1 ∈ ks.map (·.1) := by rw [List.map_cons, List.mem_cons]; exact ⟨fun h => h.resolve_left hxk, .inr⟩
        rw [show decide (x.1 ∈ (k :: ks).map (·.1)) = decide (x.1 ∈ ks.map (·.1)) from decide_eq_decide.2 hm]
theorem prune_all (ep : Int) {ks : List KeyS} {L : MarksL} (hp : (ks.map (·.1)).Perm (L.map (·.1))) (hd : (L.map (·.1)).Nodup) :
    (ks.foldl (pruneS ep) (L, 0)).1 = keptM ep L ∧ (ks.foldl (pruneS ep) (L, 0)).2 + (keptM ep L).length = L.length := by
  obtain ⟨r1, r2⟩ := prune_fold ep ks L 0 (hp.nodup_iff.2 hd) (fun k hk => hp.mem_iff.1 (List.mem_map_of_mem (f := fun x : KeyS => x.1) hk)) hd
  have e : (ks.foldl (pruneS ep) (L, 0)).1 = keptM ep L := by
    rw [r1]
    unfold keptM
    refine List.filter_congr fun x hx => ?_
    have : x.1 ∈ ks.map (·.1) := hp.mem_iff.2 (List.mem_map_of_mem hx)
    simp [this]
  rw [e] at r2
  exact ⟨e, by omega⟩
theorem lookup0_no {P : Program} {w : World} {t k e : TypeId} {es : Array MapEntry} {clock b : Nat} {x : Value} {lx : Lit} (K : WideMaps.KeyLaw P k) (ht : P.underlying t = some (.map k e)) (hb : w.heap[b]? = some (.map es clock)) (h : MapOK P k es clock) (hx : keyOf P k x = some lx) (hno : ∀ p ∈ kvs es, p.1 ≠ x)
    {z : Value} (hz : ∀ w, (zeroValue e).run P w = .ok z w) : (Instr.lookup t (.map (some b)) x false).run P w = .ok z w := by
  simp [Instr.lookup, run_underlying ht, MapKept.run_getObj_map hb, K.check w _ hx, h.find_no K hx hno w, hz]
theorem lookup0_yes {P : Program} {w : World} {t k e : TypeId} {es : Array MapEntry} {clock b : Nat} {x : Value} {lx : Lit} (K : WideMaps.KeyLaw P k) (ht : P.underlying t = some (.map k e)) (hb : w.heap[b]? = some (.map es clock)) (h : MapOK P k es clock) (hx : keyOf P k x = some lx) {j : Nat} {en : MapEntry} (hj : es[j]? = some en) (hk : en.key = x) :
    (Instr.lookup t (.map (some b)) x false).run P w = .ok en.val w := by
  simp [Instr.lookup, run_underlying ht, MapKept.run_getObj_map hb, K.check w _ hx, h.find_yes K hx hj hk w]
theorem MarksAt.look0 {w : World} {g b : Nat} {L : MarksL} (h : MarksAt w g b L) {p : MKey} (hp : MKOK p) :
    ∃ c : Mrk, c.ok ∧ c = (lookM L p).getD noMrk ∧ (Instr.lookup 108 (.map (some b)) (mkA p) false).run Try.prog w = .ok (markA c) w := by
  obtain ⟨hb1, ⟨es, clock, h3, h4, h5⟩, ⟨h6, h6'⟩, h7⟩ := h
  obtain ⟨lx, hx⟩ := keyOf_mk p hp
  unfold lookM
  cases hf : L.find? (fun e => e.1 == p) with
  | none =>
    refine ⟨noMrk, noMrk_ok, rfl, ?_⟩
    refine lookup0_no kl_mkey Try.underlying108 h3 h4 hx ?_ zeroV_mark
    intro q hq e
    rw [h5] at hq
    obtain ⟨en, hen, rfl⟩ := List.mem_map.1 hq
    have := List.find?_eq_none.1 hf en hen
    exact this (by simpa using mkA_inj e)
  | some en =>
    have hmem := List.mem_of_find?_eq_some hf
    have hkey : en.1 = p := by simpa using List.find?_some hf
    refine ⟨en.2, (h6 en hmem).2, rfl, ?_⟩
    obtain ⟨j, hj, hje⟩ := List.getElem_of_mem hmem
    have e1 : (kvs es)[j]? = some (mkA en.1, markA en.2) := by rw [h5]; unfold encM; rw [List.getElem?_map, List.getElem?_eq_getElem hj, hje]; rfl
    unfold kvs at e1
    rw [List.getElem?_map] at e1
    obtain ⟨me, hme, hmm⟩ := Option.map_eq_some_iff.1 e1
    simp only [Prod.mk.injEq] at hmm
    have := lookup0_yes kl_mkey Try.underlying108 h3 h4 hx (j := j) (en := me) (by simpa using hme) (by rw [hmm.1, hkey])
    rw [hmm.2] at this
    exact this
theorem mdel_map {w : World} {g b : Nat} {L : MarksL} (h : MarksAt w g b L) {p : MKey} (hp : MKOK p) : ∃ es es' clock, w.heap[b]? = some (.map es clock) ∧ MapOK Try.prog 112 es' clock ∧ kvs es' = encM (dropM L p) ∧ LMOK (dropM L p) ∧
    ∀ w' ty, w'.heap[b]? = some (.map es clock) → (Builtin.delete_ #[108, 112] ty #[.map (some b), mkA p]).run Try.prog w' = .ok (.tuple #[]) (withBlk w' b (.map es' clock)) := by
  obtain ⟨hb1, ⟨es, clock, h3, h4, h5⟩, ⟨h6, h6'⟩, h7⟩ := h
  obtain ⟨lx, hx⟩ := keyOf_mk p hp
  have hlo : LMOK (dropM L p) := ⟨fun e he => h6 e (List.mem_of_mem_eraseP he), h6'.sublist ((List.eraseP_sublist).map _)⟩
  cases hf : L.findIdx? (fun e => e.1 == p) with
  | none =>
    have hd : dropM L p = L := by
      unfold dropM
      rw [List.eraseP_eq_eraseIdx, hf]
    have hno : ∀ q ∈ kvs es, q.1 ≠ mkA p := by
      intro q hq e
      rw [h5] at hq
      obtain ⟨en, hen, rfl⟩ := List.mem_map.1 hq
      have := List.findIdx?_eq_none_iff.1 hf en hen
      rw [mkA_inj e] at this
      simp at this
    refine ⟨es, es, clock, h3, h4, by rw [hd, h5], hlo, fun w' ty hw => ?_⟩
    rw [withBlk_same hw]
    exact run_delete_no kl_mkey Try.underlying108 hw h4 hx hno
  | some j =>
    have hd : dropM L p = L.eraseIdx j := by
      unfold dropM
      rw [List.eraseP_eq_eraseIdx, hf]
    obtain ⟨hj, hjk, _⟩ := List.findIdx?_eq_some_iff_getElem.1 hf
    have hkey : L[j].1 = p := by simpa using hjk
    have e1 : (kvs es)[j]? = some (mkA p, markA L[j].2) := by rw [h5]; unfold encM; rw [List.getElem?_map, List.getElem?_eq_getElem hj]; simp [hkey]
    unfold kvs at e1
    rw [List.getElem?_map] at e1
    obtain ⟨me, hme, hmm⟩ := Option.map_eq_some_iff.1 e1
    simp only [Prod.mk.injEq] at hmm
    refine ⟨es, es.eraseIdxIfInBounds j, clock, h3, h4.erase j, ?_, hlo, fun w' ty hw => ?_⟩
    · rw [kvs_erase, h5, hd]; unfold encM; rw [map_erase]
    · exact run_delete_yes kl_mkey Try.underlying108 hw h4 hx (j := j) (en := me) (by simpa using hme) hmm.1
theorem fld_exp {m : Mrk} (h : m.ok) (w : World) : (Instr.field 39 (.agg (markV m).toArray) 1).run Try.prog w = .ok (.int .i64 m.expiry) w := by
  have h1 := mark_exp h
  unfold Instr.field
  rw [Sem.run_bind, run_underlying Try.underlying39]
  simp [part, asAgg, sizeOf, typeInfo]
  rw [h1]
  rfl
/-- The row of keys. -/
def KRow (w : World) (base : Nat) (A : Option Addr) (ks : List KeyS) : Prop := ∀ k x, ks[k]? = some x → ∃ gb, A = some ⟨gb, 0, none⟩ ∧ base ≤ gb ∧ gb < w.heap.size ∧ ∀ j u, (encKey x)[j]? = some u → w.cell? ⟨gb, k * 33 + j, none⟩ = some u
theorem fm_at2 {α : Type} (f : α → List Value) (sz : Nat) : ∀ (l : List α) (k j : Nat) (x : α) (u : Value), (∀ y ∈ l, (f y).length = sz) → l[k]? = some x → (f x)[j]? = some u → (l.flatMap f)[k * sz + j]? = some u
  | [], k, j, x, u, _, hx, _ => by simp at hx
  | y :: l, 0, j, x, u, hl, hx, hu => by
    simp only [List.getElem?_cons_zero, Option.some.injEq] at hx
    subst hx
    rw [List.flatMap_cons, Nat.zero_mul, Nat.zero_add, List.getElem?_append_left (List.getElem?_eq_some_iff.1 hu).1]; exact hu
  | y :: l, k + 1, j, x, u, hl, hx, hu => by
    rw [List.getElem?_cons_succ] at hx
    have e1 : (f y).length = sz := hl y (List.mem_cons_self ..)
    rw [List.flatMap_cons, List.getElem?_append_right (by rw [e1, Nat.succ_mul]; omega), e1, show (k + 1) * sz + j - sz = k * sz + j by rw [Nat.succ_mul]; omega]
    exact fm_at2 f sz l k j x u (fun z hz => hl z (List.mem_cons_of_mem _ hz)) hx hu
theorem krow_of {w : World} {base : Nat} {v : Value} {ks : List KeyS} (h : w.ownsRow base 112 33 v ks.length (ks.flatMap encKey)) : ∃ A c, v = .slice A ks.length c ∧ KRow w base A ks := by
  rcases h.2 with ⟨rfl, h0⟩ | ⟨gb, cap, cur, rfl, hbase, hgb, r1, r2, r3, r4⟩
  · refine ⟨none, 0, by rw [h0], fun k x hk => ?_⟩
    have := (List.getElem?_eq_some_iff.1 hk).1
    omega
  · refine ⟨_, cap, rfl, fun k x hk => ⟨gb, rfl, hbase, (Array.getElem?_eq_some_iff.1 hgb).1, fun j u hu => ?_⟩⟩
    have hc := fm_at2 encKey 33 ks k j x u (fun y _ => encKey_len y) hk hu
    rw [← r4] at hc
    have hj : j < 33 := by have := (List.getElem?_eq_some_iff.1 hu).1; rwa [encKey_len] at this
    rw [List.getElem?_take] at hc
    have hkl := (List.getElem?_eq_some_iff.1 hk).1
    split at hc
    · unfold World.cell?
      simp only [hgb]
      simpa using hc
    · cases hc
theorem KRow.touched {w w' : World} {base b : Nat} {A : Option Addr} {ks : List KeyS} (h : KRow w base A ks) (ht : Touched [b] w w') (hb : b < base) : KRow w' base A ks := fun k x hk => by
  obtain ⟨gb, h1, h2, h3, h4⟩ := h k x hk
  refine ⟨gb, h1, h2, Nat.lt_of_lt_of_le h3 ht.size, fun j u hu => ?_⟩
  have := ht.block gb h3 (by simp; omega)
  have h5 := h4 j u hu
  unfold World.cell? at h5 ⊢
  rw [this]; exact h5
/-- The phases of 'delete(m, k)'. -/
def delM (w0 : World) (g b : Nat) (es es' : Array MapEntry) (clock : Nat) (k : Nat) (w : World) : Prop :=
  Touched [b] w0 w ∧ w.heap.size = w0.heap.size ∧ w.heap[b]? = some (.map (if k = 0 then es else es') clock) ∧ Blk w g 110 [.map (some b)]
end Go.Proofs.Ytolbbhbfbpiljaa

/- What pruning marks makes: plain laws, and what a walk of marks.Prune asks of the map. -/
import Derived.Test.YtofhohofaedokaaMarksPlayB14
import Derived.Test.YtofhohofaedokaaMarksPlayB4
import Derived.Test.YtofhohofaedokaaMarksPlayB6
import Derived.Test.YtofhohofaedokaaMarksPlayB13
import Derived.Test.YtofhohofaedokaaMarksPlayB2
import Derived.Test.YtofhohofaedokaaMarksPlayB12
set_option linter.unusedSimpArgs false
/- What pruning marks makes: plain laws, and what a walk of marks.Prune asks of the map. -/
namespace Go.Proofs.Ytofhohofaedokaa
open Go.RowKit Go.Maps Go.Sort Go.Shelf
set_option linter.unusedVariables false
def isOldM (ep : Int) (e : MKey × Mrk) : Bool := oldB e.2.expiry ep
/-- What stays. -/
def keptM (ep : Int) (L : MarksL) : MarksL := L.filter fun e => !isOldM ep e
def dropM (L : MarksL) (p : MKey) : MarksL := L.eraseP fun e => e.1 == p
def pruneS (ep : Int) (s : MarksL × Nat) (k : KeyS) : MarksL × Nat := if oldB ((lookM s.1 k.1).getD noMrk).expiry ep then (dropM s.1 k.1, s.2 + 1) else s
theorem dropM_filter : ∀ (L : MarksL) (p : MKey), (L.map (·.1)).Nodup → dropM L p = L.filter fun e => !(e.1 == p)
  | [], p, _ => rfl
  | e :: L, p, h => by
    rw [List.map_cons, List.nodup_cons] at h
    unfold dropM
    by_cases he : (e.1 == p) = true
    · rw [List.eraseP_cons_of_pos (p := fun e : MKey × Mrk => e.1 == p) he, List.filter_cons_of_neg (by simp only [he]; decide)]
      refine (List.filter_eq_self.2 fun x hx => ?_).symm
      have : x.1 ≠ p := fun hxp => h.1 (by rw [eq_of_beq he, ← hxp]; exact List.mem_map_of_mem hx)
      simp [this]
    · rw [List.eraseP_cons_of_neg (p := fun e : MKey × Mrk => e.1 == p) he, List.filter_cons_of_pos (by simp only [Bool.eq_false_iff.2 he]; decide)]
      congr 1
      exact dropM_filter L p h.2
theorem lookM_mem {L : MarksL} {e : MKey × Mrk} (h : e ∈ L) (hd : (L.map (·.1)).Nodup) : lookM L e.1 = some e.2 := by
  unfold lookM
  induction L with
  | nil => cases h
  | cons x L ih =>
    rw [List.map_cons, List.nodup_cons] at hd
    by_cases hx : (x.1 == e.1) = true
    · rw [List.find?_cons_of_pos (by exact hx)]
      rcases List.mem_cons.1 h with rfl | h2
      · rfl
      · exact absurd (List.mem_map_of_mem (f := fun x : MKey × Mrk => x.1) h2) (by show e.1 ∉ _; rw [← eq_of_beq hx]; exact hd.1)
    · rw [List.find?_cons_of_neg (by simpa using hx)]
      rcases List.mem_cons.1 h with rfl | h2
      · simp at hx
      · exact ih h2 hd.2
theorem prune_fold (ep : Int) : ∀ (ks : List KeyS) (L : MarksL) (c : Nat), (ks.map (·.1)).Nodup → (∀ k ∈ ks, k.1 ∈ L.map (·.1)) → (L.map (·.1)).Nodup →
    (ks.foldl (pruneS ep) (L, c)).1 = L.filter (fun e => !(isOldM ep e && decide (e.1 ∈ ks.map (·.1)))) ∧ (ks.foldl (pruneS ep) (L, c)).2 + (ks.foldl (pruneS ep) (L, c)).1.length = c + L.length
  | [], L, c, _, _, _ => ⟨(List.filter_eq_self.2 (by simp)).symm, rfl⟩
  | k :: ks, L, c, h1, h2, h3 => by
    rw [List.map_cons, List.nodup_cons] at h1
    obtain ⟨e, he, hek⟩ := List.mem_map.1 (h2 k (by simp))
    have hl : lookM L k.1 = some e.2 := by rw [← hek]; exact lookM_mem he h3
    rw [List.foldl_cons]
    by_cases ho : isOldM ep e = true
    · have hs : pruneS ep (L, c) k = (dropM L k.1, c + 1) := by unfold pruneS; rw [hl]; exact if_pos ho
      rw [hs]
      have hf := dropM_filter L k.1 h3
      have hn3 : ((dropM L k.1).map (·.1)).Nodup := by rw [hf]; exact h3.sublist (List.filter_sublist.map _)
      have hm3 : ∀ k' ∈ ks, k'.1 ∈ (dropM L k.1).map (·.1) := fun k' hk' => by
        obtain ⟨e', he', hee'⟩ := List.mem_map.1 (h2 k' (by simp [hk']))
        rw [hf]
        refine List.mem_map.2 ⟨e', List.mem_filter.2 ⟨he', ?_⟩, hee'⟩
        have : e'.1 ≠ k.1 := fun hh => h1.1 (by rw [← hh, hee']; exact List.mem_map_of_mem (f := fun x : KeyS => x.1) hk')
        simp [this]
      obtain ⟨r1, r2⟩ := prune_fold ep ks (dropM L k.1) (c + 1) h1.2 hm3 hn3
      refine ⟨?_, ?_⟩
      · rw [r1, hf, List.filter_filter]
        refine List.filter_congr fun x hx => ?_
        by_cases hxk : x.1 = k.1
        · have hxe : x = e := by
            have a1 := lookM_mem hx h3
            have a2 := lookM_mem he h3
            rw [hxk, ← hek, a2] at a1
            exact Prod.ext (hxk.trans hek.symm) (by injection a1 with a1; exact a1.symm)
          rw [hxe, ho]; simp [hek]
        · have hm : (x.1 ∈ (k :: ks).map (·.1)) ↔ x.1 ∈ ks.map (·.1) := by rw [List.map_cons, List.mem_cons]; exact ⟨fun h => h.resolve_left hxk, .inr⟩
          rw [show decide (x.1 ∈ (k :: ks).map (·.1)) = decide (x.1 ∈ ks.map (·.1)) from decide_eq_decide.2 hm]
          simp [hxk]
      · rw [r2]
        have : (dropM L k.1).length + 1 = L.length := by
          unfold dropM
          rw [List.length_eraseP_of_mem he (by simpa using hek)]
          have := List.length_pos_of_mem he
          omega
        omega
    · have hs : pruneS ep (L, c) k = (L, c) := by unfold pruneS; rw [hl]; exact if_neg ho
      rw [hs]
      obtain ⟨r1, r2⟩ := prune_fold ep ks L c h1.2 (fun k' hk' => h2 k' (by simp [hk'])) h3
      refine ⟨?_, r2⟩
      rw [r1]
      refine List.filter_congr fun x hx => ?_
      by_cases hxk : x.1 = k.1
      · have hxe : x = e := by
          have a1 := lookM_mem hx h3
          have a2 := lookM_mem he h3
          rw [hxk, ← hek, a2] at a1
          exact Prod.ext (hxk.trans hek.symm) (by injection a1 with a1; exact a1.symm)
        rw [hxe, Bool.eq_false_iff.2 ho]; simp
      · have hm : (x.1 ∈ (k :: ks).map (·.1)) ↔ x.1 ∈ ks.map (·.1) := by rw [List.map_cons, List.mem_cons]; exact ⟨fun h => h.resolve_left hxk, .inr⟩
        rw [show decide (x.1 ∈ (k :: ks).map (·.1)) = decide (x.1 ∈ ks.map (·.1)) from decide_eq_decide.2 hm]
theorem prune_all (ep : Int) {ks : List KeyS} {L : MarksL} (hp : (ks.map (·.1)).Perm (L.map (·.1))) (hd : (L.map (·.1)).Nodup) :
    (ks.foldl (pruneS ep) (L, 0)).1 = keptM ep L ∧ (ks.foldl (pruneS ep) (L, 0)).2 + (keptM ep L).length = L.length := by
  obtain ⟨r1, r2⟩ := prune_fold ep ks L 0 (hp.nodup_iff.2 hd) (fun k hk => hp.mem_iff.1 (List.mem_map_of_mem (f := fun x : KeyS => x.1) hk)) hd
  have e : (ks.foldl (pruneS ep) (L, 0)).1 = keptM ep L := by
    rw [r1]
    unfold keptM
    refine List.filter_congr fun x hx => ?_
    have : x.1 ∈ ks.map (·.1) := hp.mem_iff.2 (List.mem_map_of_mem hx)
    simp [this]
  rw [e] at r2
  exact ⟨e, by omega⟩
theorem lookup0_no {P : Program} {w : World} {t k e : TypeId} {es : Array MapEntry} {clock b : Nat} {x : Value} {lx : Lit} (K : WideMaps.KeyLaw P k) (ht : P.underlying t = some (.map k e)) (hb : w.heap[b]? = some (.map es clock)) (h : MapOK P k es clock) (hx : keyOf P k x = some lx) (hno : ∀ p ∈ kvs es, p.1 ≠ x)
    {z : Value} (hz : ∀ w, (zeroValue e).run P w = .ok z w) : (Instr.lookup t (.map (some b)) x false).run P w = .ok z w := by
  simp [Instr.lookup, run_underlying ht, MapKept.run_getObj_map hb, K.check w _ hx, h.find_no K hx hno w, hz]
theorem lookup0_yes {P : Program} {w : World} {t k e : TypeId} {es : Array MapEntry} {clock b : Nat} {x : Value} {lx : Lit} (K : WideMaps.KeyLaw P k) (ht : P.underlying t = some (.map k e)) (hb : w.heap[b]? = some (.map es clock)) (h : MapOK P k es clock) (hx : keyOf P k x = some lx) {j : Nat} {en : MapEntry} (hj : es[j]? = some en) (hk : en.key = x) :
    (Instr.lookup t (.map (some b)) x false).run P w = .ok en.val w := by
  simp [Instr.lookup, run_underlying ht, MapKept.run_getObj_map hb, K.check w _ hx, h.find_yes K hx hj hk w]
theorem MarksAt.look0 {w : World} {g b : Nat} {L : MarksL} (h : MarksAt w g b L) {p : MKey} (hp : MKOK p) :
    ∃ c : Mrk, c.ok ∧ c = (lookM L p).getD noMrk ∧ (Instr.lookup 58 (.map (some b)) (mkA p) false).run Try.prog w = .ok (markA c) w := by
  obtain ⟨hb1, ⟨es, clock, h3, h4, h5⟩, ⟨h6, h6'⟩, h7⟩ := h
  obtain ⟨lx, hx⟩ := keyOf_mk p hp
  unfold lookM
  cases hf : L.find? (fun e => e.1 == p) with
  | none =>
    refine ⟨noMrk, noMrk_ok, rfl, ?_⟩
    refine lookup0_no kl_mkey Try.underlying58 h3 h4 hx ?_ zeroV_mark
    intro q hq e
    rw [h5] at hq
    obtain ⟨en, hen, rfl⟩ := List.mem_map.1 hq
    have := List.find?_eq_none.1 hf en hen
    exact this (by simpa using mkA_inj e)
  | some en =>
    have hmem := List.mem_of_find?_eq_some hf
    have hkey : en.1 = p := by simpa using List.find?_some hf
    refine ⟨en.2, (h6 en hmem).2, rfl, ?_⟩
    obtain ⟨j, hj, hje⟩ := List.getElem_of_mem hmem
    have e1 : (kvs es)[j]? = some (mkA en.1, markA en.2) := by rw [h5]; unfold encM; rw [List.getElem?_map, List.getElem?_eq_getElem hj, hje]; rfl
    unfold kvs at e1
    rw [List.getElem?_map] at e1
    obtain ⟨me, hme, hmm⟩ := Option.map_eq_some_iff.1 e1
    simp only [Prod.mk.injEq] at hmm
    have := lookup0_yes kl_mkey Try.underlying58 h3 h4 hx (j := j) (en := me) (by simpa using hme) (by rw [hmm.1, hkey])
    rw [hmm.2] at this
    exact this
theorem mdel_map {w : World} {g b : Nat} {L : MarksL} (h : MarksAt w g b L) {p : MKey} (hp : MKOK p) : ∃ es es' clock, w.heap[b]? = some (.map es clock) ∧ MapOK Try.prog 64 es' clock ∧ kvs es' = encM (dropM L p) ∧ LMOK (dropM L p) ∧
    ∀ w' ty, w'.heap[b]? = some (.map es clock) → (Builtin.delete_ #[58, 64] ty #[.map (some b), mkA p]).run Try.prog w' = .ok (.tuple #[]) (withBlk w' b (.map es' clock)) := by
  obtain ⟨hb1, ⟨es, clock, h3, h4, h5⟩, ⟨h6, h6'⟩, h7⟩ := h
  obtain ⟨lx, hx⟩ := keyOf_mk p hp
  have hlo : LMOK (dropM L p) := ⟨fun e he => h6 e (List.mem_of_mem_eraseP he), h6'.sublist ((List.eraseP_sublist).map _)⟩
  cases hf : L.findIdx? (fun e => e.1 == p) with
  | none =>
    have hd : dropM L p = L := by
      unfold dropM
      rw [List.eraseP_eq_eraseIdx, hf]
    have hno : ∀ q ∈ kvs es, q.1 ≠ mkA p := by
      intro q hq e
      rw [h5] at hq
      obtain ⟨en, hen, rfl⟩ := List.mem_map.1 hq
      have := List.findIdx?_eq_none_iff.1 hf en hen
      rw [mkA_inj e] at this
      simp at this
    refine ⟨es, es, clock, h3, h4, by rw [hd, h5], hlo, fun w' ty hw => ?_⟩
    rw [withBlk_same hw]
    exact run_delete_no kl_mkey Try.underlying58 hw h4 hx hno
  | some j =>
    have hd : dropM L p = L.eraseIdx j := by
      unfold dropM
      rw [List.eraseP_eq_eraseIdx, hf]
    obtain ⟨hj, hjk, _⟩ := List.findIdx?_eq_some_iff_getElem.1 hf
    have hkey : L[j].1 = p := by simpa using hjk
    have e1 : (kvs es)[j]? = some (mkA p, markA L[j].2) := by rw [h5]; unfold encM; rw [List.getElem?_map, List.getElem?_eq_getElem hj]; simp [hkey]
    unfold kvs at e1
    rw [List.getElem?_map] at e1
    obtain ⟨me, hme, hmm⟩ := Option.map_eq_some_iff.1 e1
    simp only [Prod.mk.injEq] at hmm
    refine ⟨es, es.eraseIdxIfInBounds j, clock, h3, h4.erase j, ?_, hlo, fun w' ty hw => ?_⟩
    · rw [kvs_erase, h5, hd]; unfold encM; rw [map_erase]
    · exact run_delete_yes kl_mkey Try.underlying58 hw h4 hx (j := j) (en := me) (by simpa using hme) hmm.1
theorem fld_exp {m : Mrk} (h : m.ok) (w : World) : (Instr.field 38 (.agg (markV m).toArray) 1).run Try.prog w = .ok (.int .i64 m.expiry) w := by
  have h1 := mark_exp h
  unfold Instr.field
  rw [Sem.run_bind, run_underlying Try.underlying38]
  simp [part, asAgg, sizeOf, typeInfo]
  rw [h1]
  rfl
/-- The row of keys. -/
def KRow (w : World) (base : Nat) (A : Option Addr) (ks : List KeyS) : Prop := ∀ k x, ks[k]? = some x → ∃ gb, A = some ⟨gb, 0, none⟩ ∧ base ≤ gb ∧ gb < w.heap.size ∧ ∀ j u, (encKey x)[j]? = some u → w.cell? ⟨gb, k * 33 + j, none⟩ = some u
theorem fm_at2 {α : Type} (f : α → List Value) (sz : Nat) : ∀ (l : List α) (k j : Nat) (x : α) (u : Value), (∀ y ∈ l, (f y).length = sz) → l[k]? = some x → (f x)[j]? = some u → (l.flatMap f)[k * sz + j]? = some u
  | [], k, j, x, u, _, hx, _ => by simp at hx
  | y :: l, 0, j, x, u, hl, hx, hu => by
    simp only [List.getElem?_cons_zero, Option.some.injEq] at hx
    subst hx
    rw [List.flatMap_cons, Nat.zero_mul, Nat.zero_add, List.getElem?_append_left (List.getElem?_eq_some_iff.1 hu).1]; exact hu
  | y :: l, k + 1, j, x, u, hl, hx, hu => by
    rw [List.getElem?_cons_succ] at hx
    have e1 : (f y).length = sz := hl y (List.mem_cons_self ..)
    rw [List.flatMap_cons, List.getElem?_append_right (by rw [e1, Nat.succ_mul]; omega), e1, show (k + 1) * sz + j - sz = k * sz + j by rw [Nat.succ_mul]; omega]
    exact fm_at2 f sz l k j x u (fun z hz => hl z (List.mem_cons_of_mem _ hz)) hx hu
theorem krow_of {w : World} {base : Nat} {v : Value} {ks : List KeyS} (h : w.ownsRow base 64 33 v ks.length (ks.flatMap encKey)) : ∃ A c, v = .slice A ks.length c ∧ KRow w base A ks := by
  rcases h.2 with ⟨rfl, h0⟩ | ⟨gb, cap, cur, rfl, hbase, hgb, r1, r2, r3, r4⟩
  · refine ⟨none, 0, by rw [h0], fun k x hk => ?_⟩
    have := (List.getElem?_eq_some_iff.1 hk).1
    omega
  · refine ⟨_, cap, rfl, fun k x hk => ⟨gb, rfl, hbase, (Array.getElem?_eq_some_iff.1 hgb).1, fun j u hu => ?_⟩⟩
    have hc := fm_at2 encKey 33 ks k j x u (fun y _ => encKey_len y) hk hu
    rw [← r4] at hc
    have hj : j < 33 := by have := (List.getElem?_eq_some_iff.1 hu).1; rwa [encKey_len] at this
    rw [List.getElem?_take] at hc
    have hkl := (List.getElem?_eq_some_iff.1 hk).1
    split at hc
    · unfold World.cell?
      simp only [hgb]
      simpa using hc
    · cases hc
theorem KRow.touched {w w' : World} {base b : Nat} {A : Option Addr} {ks : List KeyS} (h : KRow w base A ks) (ht : Touched [b] w w') (hb : b < base) : KRow w' base A ks := fun k x hk => by
  obtain ⟨gb, h1, h2, h3, h4⟩ := h k x hk
  refine ⟨gb, h1, h2, Nat.lt_of_lt_of_le h3 ht.size, fun j u hu => ?_⟩
  have := ht.block gb h3 (by simp; omega)
  have h5 := h4 j u hu
  unfold World.cell? at h5 ⊢
  rw [this]; exact h5
/-- The phases of 'delete(m, k)'. -/
def delM (w0 : World) (g b : Nat) (es es' : Array MapEntry) (clock : Nat) (k : Nat) (w : World) : Prop :=
  Touched [b] w0 w ∧ w.heap.size = w0.heap.size ∧ w.heap[b]? = some (.map (if k = 0 then es else es') clock) ∧ Blk w g 60 [.map (some b)]
end Go.Proofs.Ytofhohofaedokaa

/- The contract of marks.Prune. -/
namespace Go.Proofs.Ytofhohofaedokaa
open Go.RowKit Go.Maps Go.Sort Go.Shelf
set_option linter.unusedVariables false
theorem prune_cnt (ep : Int) : ∀ (ks : List KeyS) (s : MarksL × Nat), (ks.foldl (pruneS ep) s).2 ≤ s.2 + ks.length
  | [], s => by simp
  | k :: ks, s => by
    rw [List.foldl_cons, List.length_cons]
    have h1 := prune_cnt ep ks (pruneS ep s k)
    have h2 : (pruneS ep s k).2 ≤ s.2 + 1 := by unfold pruneS; split <;> simp
    omega
theorem fold_snoc {α β : Type} (f : β → α → β) (l : List α) (s : β) {k : Nat} {x : α} (h : l[k]? = some x) : (l.take (k + 1)).foldl f s = f ((l.take k).foldl f s) x := by
  rw [List.take_add_one, h]
  simp
set_option maxRecDepth 100000 in
set_option maxHeartbeats 4000000 in
theorem prune_any (g b : Nat) (L : MarksL) (ep : Int) (w : World) (h : MarksAt w g b L) (hn : L.length ≤ 1000000) (hep : I64 ep) :
    Calls Try.prog 9 #[.pointer (some ⟨g, 0, none⟩), .int .i64 ep] w fun e w' => ∃ c : Nat, e = .returned (.int .i64 c) ∧ c + (keptM ep L).length = L.length ∧ MarksAt w' g b (keptM ep L) ∧ Touched [b] w w' := by
  have HH := Lib.hid h
  have HEP := Lib.hid hep
  have HLL := Lib.hid hn
  have hg := h.ltg; have hb := h.ltb; have hgb := h.ne
  have HGB := Lib.hid hgb
  have HK := Lib.hid (mkeys_any g b L w h hn)
  obtain ⟨z, hz⟩ : ∃ z, z = w.heap.size := ⟨_, rfl⟩
  rw [← hz] at hg hb
  have HZ := Lib.hid hz
  clear h hep hn hz hgb
  go_enter Try.func9, Try.ntmps9
  go_wp2_with fail
  refine HK.out.mono ?_
  rintro e w1 ⟨v, ks, rfl, hperm, _, hrow, hb1⟩
  obtain ⟨A, c, rfl, hkr⟩ := krow_of hrow
  have HP := Lib.hid (prune_all ep hperm HH.out.ok.2)
  have HKL := Lib.hid (show ks.length ≤ 1000000 by have := hperm.length_eq; rw [List.length_map, List.length_map] at this; have := HLL.out; omega)
  have HKR := Lib.hid hkr
  have HT0 := Lib.hid (Touched.of_below (l := [b]) hb1)
  have HM0 := Lib.hid (HH.out.call hb1)
  have hnk : ks.length ≤ 1000000 := HKL.out
  clear hperm hrow hkr hb1 HK HH
  rw [← HZ.out] at HKR
  obtain ⟨n, hn⟩ : ∃ n, n = ks.length := ⟨_, rfl⟩
  rw [← hn] at hnk ⊢
  have HN := Lib.hid hn
  clear hn
  go_wp2_with fail
  go_loopw [5, 11] (fun s5 iv wr => ∃ k c : Nat, k ≤ n ∧ c ≤ k ∧ iv = .int .i64 k ∧ s5 = .int .i64 c ∧ Hid (∃ Lk, (ks.take k).foldl (pruneS ep) (L, 0) = (Lk, c) ∧ MarksAt wr g b Lk ∧ Touched [b] w wr ∧ KRow wr z A ks)) (fun _ iv _ => n - (intOf iv).toNat)
  case atStart => exact ⟨0, 0, by omega, by omega, rfl, rfl, Lib.hid ⟨L, rfl, HM0.out, HT0.out, HKR.out⟩⟩
  case round =>
    obtain ⟨k, c, hk, hck, rfl, rfl, hI⟩ := hrel
    clear HM0 HT0 HKR
    obtain ⟨Lk, hLk, hM, hT, hKR⟩ := hI.out
    have HLK := Lib.hid hLk; have HM := Lib.hid hM; have HT := Lib.hid hT; have HKR := Lib.hid hKR
    clear hI hLk hM hT hKR
    by_cases hlt : k < n
    · have hkk : ks[k]? = some (ks[k]'(by have := HN.out; omega)) := List.getElem?_eq_getElem _
      obtain ⟨x, hx⟩ : ∃ x, x = ks[k]'(by have := HN.out; omega) := ⟨_, rfl⟩
      rw [← hx] at hkk
      obtain ⟨gb, rfl, hgb1, hgb2, hcell⟩ := HKR.out k x hkk
      have HS := Lib.hid (fold_snoc (pruneS ep) ks (L, 0) hkk)
      rw [HLK.out] at HS
      obtain ⟨m, hm1, hm2, hm3⟩ := HM.out.look0 x.2
      have HMO := Lib.hid hm1
      have hlk : ∀ w', MarksAt w' g b Lk → (Instr.lookup 58 (.map (some b)) (mkA x.1) false).run Try.prog w' = .ok (markA m) w' := by
        intro w' h'
        obtain ⟨c', _, e, h2⟩ := h'.look0 x.2
        rw [hm2, ← e]; exact h2
      have HLO := Lib.hid hlk
      have HFE := Lib.hid (fun w => fld_exp hm1 w)
      obtain ⟨r, hr⟩ : ∃ r, oldB m.expiry ep = r := ⟨_, rfl⟩
      have HOLD := Lib.hid (fun w => old_any m.expiry ep w HMO.out.2.2.2.1 HEP.out hr)
      have HST := Lib.hid (show pruneS ep (Lk, c) x = if r = true then (dropM Lk x.1, c + 1) else (Lk, c) by unfold pruneS; rw [← hm2, hr])
      obtain ⟨es, es', clock, d1, d2, d3, d4, d5⟩ := mdel_map HM.out x.2
      have HD1 := Lib.hid d1; have HD2 := Lib.hid d2; have HD3 := Lib.hid d3; have HD4 := Lib.hid d4; have HD5 := Lib.hid d5
      have HCE := Lib.hid hcell
      have HXL := Lib.hid (encKey_len x); have HX1 := Lib.hid (encKey_one x)
      have HZL := Lib.hid (encKey_len default)
      have HGB1 := Lib.hid (show z ≤ wr.heap.size from Nat.le_trans hgb1 (Nat.le_of_lt hgb2))
      clear hkk hx hcell hm1 hm2 hm3 hlk hr d1 d2 d3 d4 d5 hgb1 hgb2
      obtain ⟨xs, hxs⟩ : ∃ q, q = encKey x := ⟨_, rfl⟩
      have HXE := Lib.hid hxs
      rw [← hxs] at HCE HXL HX1
      rw [show mkA x.1 = .agg xs.toArray by rw [hxs]; rfl] at HLO HD5
      obtain ⟨ms, hms⟩ : ∃ q, q = markV m := ⟨_, rfl⟩
      obtain ⟨ex, hex⟩ : ∃ q, q = m.expiry := ⟨_, rfl⟩
      rw [markA, ← hms] at HLO
      rw [← hms, ← hex] at HFE
      rw [← hex] at HOLD
      clear hxs hms hex
      go_wp2_with (first | (with_reducible refine wpl_loadm (o := ⟨some 14, _, _, _, _, _⟩) rfl rfl row_mkey HCE.out rfl HXL.out ?_) | (with_reducible refine wpl_alloc (o := ⟨some 7, _, _, _, _, _⟩) rfl rfl zero_key ?_))
      intro w2 hb2 hbw2 hsz2
      have HB2 := Lib.hid hb2
      have HT2 := Lib.hid (HT.out.step hbw2)
      have HM2 := Lib.hid (HM.out.call hbw2)
      have HTR := Lib.hid (Touched.of_below (l := [b]) hbw2)
      have HD12 := Lib.hid ((hbw2.block b HM.out.ltb).trans HD1.out)
      obtain ⟨gk, hgk⟩ : ∃ q, q = wr.heap.size := ⟨_, rfl⟩
      rw [← hgk] at HB2 HGB1 ⊢
      have HGK := Lib.hid (show z ≤ gk from HGB1.out)
      have HGR := Lib.hid hgk
      clear hb2 hbw2 hsz2 HT HM HD1 HCE hgk HGB1
      go_wp2_with (first | (with_reducible refine wpl_storeb (o := ⟨none, .store _ _ _, _, _, _, _⟩) rfl rfl row_mkey HB2.out rfl rfl HZL.out HXL.out HX1.out ?_))
      intro w3 hb3 hg3 hs3
      have hgz := HGK.out
      have HB3 := Lib.hid hb3
      have HT3 := Lib.hid (HT2.out.grown hg3 (.inr (by have := HZ.out; omega)))
      have HM3 := Lib.hid (show MarksAt w3 g b Lk from by
        obtain ⟨q1, ⟨e1, c1, q2, q3, q4⟩, q5, q6⟩ := HM2.out
        exact ⟨q1.grown hg3 (by simp; omega), ⟨e1, c1, (hg3.block b (Array.getElem?_eq_some_iff.1 q2).1 (by simp; omega)).trans q2, q3, q4⟩, q5, q6⟩)
      have HD13 := Lib.hid ((hg3.block b HM2.out.ltb (by simp; omega)).trans HD12.out)
      have HKR3 := Lib.hid (HKR.out.touched (HTR.out.grown hg3 (.inr (Nat.le_of_eq HGR.out.symm))) hb)
      clear hb3 hg3 hs3 HB2 HT2 HM2 HKR HTR HD12 hgz
      generalize hz3 : w3.heap.size = z3
      repeat' (first | (with_reducible refine wp_phase (id := 5) (fun (_ : Nat) w' => Below w3.heap.size w3 w') [] [(0,0),(0,0),(0,0),(0,0),(0,0),(0,0),(0,0),(0,0),(0,0)] (by kernel_rfl) (by kernel_rfl) ?_ ?_) | go_values | go_skip | go_guarded | go_step | go_upon | go_back)
      · exact Drawn.all (Drawn.one w3)
      have HF := Lib.hid (show ∀ w', Below w3.heap.size w3 w' → w'.cell? ⟨g, 0, none⟩ = some (.map (some b)) from fun w' h => (HM3.out.call h).blk.at_ rfl)
      have HL := Lib.hid (show ∀ w', Below w3.heap.size w3 w' → (Instr.lookup 58 (.map (some b)) (.agg xs.toArray) false).run Try.prog w' = .ok (.agg ms.toArray) w' from fun w' h => HLO.out w' (HM3.out.call h))
      refine ph_value rfl (by first | rfl | go_simp) (fun k_ _ _ w_ hC_ => by first | (go_simp; rfl) | (go_simp; done) | rfl) (fun K hK => ?_)
      go_simp
      refine hK _ ?_
      clear hK K
      refine ph_value rfl (by first | rfl | go_simp) (fun k_ _ _ w_ hC_ => by first | (go_simp; rfl) | (go_simp; done) | rfl) (fun K hK => ?_)
      go_simp
      refine hK _ ?_
      clear hK K
      refine ph_value rfl (by first | rfl | go_simp) (fun k_ _ _ w_ hC_ => by first | (go_simp; rfl) | (go_simp; done) | rfl) (fun K hK => ?_)
      go_simp
      refine hK _ ?_
      clear hK K
      refine ph_value rfl (by first | rfl | go_simp) (fun k_ _ _ w_ hC_ => by have c1 := HF.out _ hC_; first | (go_simp; rfl) | (go_simp; done) | rfl) (fun K hK => ?_)
      go_simp
      refine hK _ ?_
      clear hK K
      refine ph_load rfl rfl rfl row_mkey (fun k _ _ w h => HB3.out.call h) rfl HXL.out ?_
      (intro K hK; go_simp; refine hK _ ?_; clear hK K)
      refine ph_value rfl (by first | rfl | go_simp) (fun k_ _ _ w_ hC_ => by have c1 := HL.out _ hC_; first | (go_simp; rfl) | (go_simp; done) | rfl) (fun K hK => ?_)
      go_simp
      refine hK _ ?_
      clear hK K
      refine ph_value rfl (by first | rfl | go_simp) (fun k_ _ _ w_ hC_ => by have c1 := HFE.out w_; first | (go_simp; rfl) | (go_simp; done) | rfl) (fun K hK => ?_)
      go_simp
      refine hK _ ?_
      clear hK K
      refine ph_value rfl (by first | rfl | go_simp) (fun k_ _ _ w_ hC_ => by first | (go_simp; rfl) | (go_simp; done) | rfl) (fun K hK => ?_)
      go_simp
      refine hK _ ?_
      clear hK K
      refine ph_call rfl (by first | rfl | go_simp) (fun w => by first | rfl | (go_simp; rfl) | go_simp) (fun k _ _ w h => (HOLD.out w).mono fun e w' ⟨he, hw⟩ => ⟨he, hw ▸ h⟩) ?_
      (intro K hK; go_simp; refine hK _ ?_; clear hK K)
      refine ph_nil ?_
      intro w4 hl4
      have HB4 := Lib.hid (HB3.out.call hl4)
      have HT4 := Lib.hid (HT3.out.step hl4)
      have HM4 := Lib.hid (HM3.out.call hl4)
      have HD14 := Lib.hid ((hl4.block b HM3.out.ltb).trans HD13.out)
      have HKR4 := Lib.hid (HKR3.out.touched (Touched.of_below (l := [b]) hl4) hb)
      clear hl4 HF HL HB3 HT3 HM3 HD13 HKR3 hz3
      cases r with
      | false =>
        go_wp2_with fail
        go_roundw
        case rel => exact ⟨k + 1, c, by omega, by omega, by go_num, rfl, Lib.hid ⟨Lk, by rw [HS.out, HST.out]; rfl, HM4.out, HT4.out, HKR4.out⟩⟩
        case measure => simp [intOf]; omega
      | true =>
        go_wp2_with fail
        repeat' (first | (with_reducible refine wp_phase (id := 6) (delM w4 g b es es' clock) [5] [(0,1),(0,1),(0,1),(0,1),(0,1),(0,0)] (by kernel_rfl) (by kernel_rfl) ?_ ?_) | go_values | go_skip | go_guarded | go_step | go_upon | go_back)
        · exact ⟨Touched.of_below (Drawn.all (Drawn.one w4)), rfl, HD14.out, HM4.out.blk⟩
        have HF := Lib.hid (show ∀ k w', delM w4 g b es es' clock k w' → w'.cell? ⟨g, 0, none⟩ = some (.map (some b)) from fun k w' h => h.2.2.2.at_ rfl)
        have HX1 := Lib.hid (show ∀ k w', delM w4 g b es es' clock k w' → Blk w' gk 64 xs from fun k w' h => (h.1.block gk HB4.out.lt (by have := HGK.out; simp; omega)).trans HB4.out)
        refine ph_value rfl (by first | rfl | go_simp) (fun k_ _ _ w_ hC_ => by first | (go_simp; rfl) | (go_simp; done) | rfl) (fun K hK => ?_)
        go_simp
        refine hK _ ?_
        clear hK K
        refine ph_value rfl (by first | rfl | go_simp) (fun k_ _ _ w_ hC_ => by first | (go_simp; rfl) | (go_simp; done) | rfl) (fun K hK => ?_)
        go_simp
        refine hK _ ?_
        clear hK K
        refine ph_value rfl (by first | rfl | go_simp) (fun k_ _ _ w_ hC_ => by first | (go_simp; rfl) | (go_simp; done) | rfl) (fun K hK => ?_)
        go_simp
        refine hK _ ?_
        clear hK K
        refine ph_value rfl (by first | rfl | go_simp) (fun k_ _ _ w_ hC_ => by have c1 := HF.out _ _ hC_; first | (go_simp; rfl) | (go_simp; done) | rfl) (fun K hK => ?_)
        go_simp
        refine hK _ ?_
        clear hK K
        refine ph_load rfl rfl rfl row_mkey (fun k _ _ w h => HX1.out k w h) rfl HXL.out ?_
        (intro K hK; go_simp; refine hK _ ?_; clear hK K)
        refine ph_run 0 rfl rfl rfl (by first | rfl | go_simp) (fun w' hC => ⟨_, by (have hrun := fun ty => HD5.out w' ty hC.2.2.1); first | (go_simp; rfl) | (go_simp; exact ⟨rfl, rfl⟩) | go_simp, ⟨hC.1.grown (withBlk_grown _ _ _) (.inl (by simp)), by rw [withBlk_size, hC.2.1], withBlk_heap hC.2.2.1, hC.2.2.2.grown (withBlk_grown _ _ _) (by simpa using HGB.out)⟩⟩) ?_
        (intro K hK; go_simp; refine hK _ ?_; clear hK K)
        refine ph_nil ?_
        intro w5 hC5
        have HM5 := Lib.hid (show MarksAt w5 g b (dropM Lk x.1) from ⟨hC5.2.2.2, ⟨es', clock, hC5.2.2.1, HD2.out, HD3.out⟩, HD4.out, HGB.out⟩)
        have HT5 := Lib.hid (HT4.out.trans hC5.1)
        have HKR5 := Lib.hid (HKR4.out.touched hC5.1 hb)
        clear hC5 HF HX1
        go_wp2_with fail
        go_roundw
        case rel => exact ⟨k + 1, c + 1, by omega, by omega, by go_num, by go_num, Lib.hid ⟨dropM Lk x.1, by rw [HS.out, HST.out]; rfl, HM5.out, HT5.out, HKR5.out⟩⟩
        case measure => simp [intOf]; omega
    · obtain rfl : k = n := by omega
      have hp := HP.out
      have hl := HLK.out
      rw [HN.out, List.take_length] at hl
      rw [hl] at hp
      have HPP := Lib.hid hp
      clear hp hl
      go_wp2_with fail
      go_ret
      refine ⟨c, rfl, HPP.out.2, ?_, HT.out⟩
      have h1 : Lk = keptM ep L := HPP.out.1
      rw [← h1]; exact HM.out
end Go.Proofs.Ytofhohofaedokaa

/- Locks in memory; contracts of locks.New, Len, Sum, Get. Printed by mklock.py. -/
namespace Go.Proofs.Ytofhohofaedokaa
open Go.RowKit
set_option linter.unusedVariables false
/-- A coin that is held, and for whom. -/
abbrev LockV := CoinV × List UInt8
def lockV (x : LockV) : List Value := coinV x.1 ++ x.2.map B
def LockOK (x : LockV) : Prop := CoinOK x.1 ∧ x.2.length = 32
def lockA (x : LockV) : Value := .agg (lockV x).toArray
def noLock : LockV := (noCoin, List.replicate 32 0)
theorem row_idk : RowT Try.prog 28 32 := ⟨_, Try.underlying28, by kernel_rfl, by kernel_rfl⟩
def zidV : List Value := (List.replicate 32 (0 : UInt8)).map B
theorem zero_idk : (Try.prog.info? 28).map (·.zero) = some (some (.agg zidV.toArray)) := by kernel_rfl
theorem zidV_len : zidV.length = 32 := by simp [zidV]
theorem lockV_length {x : LockV} (h : LockOK x) : (lockV x).length = 65 := by unfold lockV; rw [List.length_append, coinV_length h.1, List.length_map, h.2]
theorem lockV_one (x : LockV) : ∀ u ∈ lockV x, u.oneCell' = true := by
  intro u hu
  rcases List.mem_append.1 hu with h | h
  · exact coinV_one x.1 u h
  · obtain ⟨y, _, rfl⟩ := List.mem_map.1 h; rfl
theorem noLock_ok : LockOK noLock := ⟨noCoin_ok, by simp [noLock]⟩
theorem lock_coin {x : LockV} {j : Nat} {u : Value} (hu : (coinV x.1)[j]? = some u) : (lockV x)[0 + j]? = some u := by
  unfold lockV; rw [Nat.zero_add, List.getElem?_append_left (List.getElem?_eq_some_iff.1 hu).1]; exact hu
theorem lock_id {x : LockV} (h : LockOK x) {j : Nat} {u : Value} (hu : (x.2.map B)[j]? = some u) : (lockV x)[33 + j]? = some u := by
  unfold lockV; rw [List.getElem?_append_right (by rw [coinV_length h.1]; omega), coinV_length h.1, show 33 + j - 33 = j by omega]; exact hu
theorem mapB_one (l : List UInt8) : ∀ u ∈ l.map B, u.oneCell' = true := fun u hu => by obtain ⟨y, _, rfl⟩ := List.mem_map.1 hu; rfl
abbrev LocksL := List (PtK × LockV)
def encL (L : LocksL) : List (Value × Value) := L.map fun e => (ptA e.1, lockA e.2)
/-- What is known of the entries: right ones, each output once. -/
def LKOK (L : LocksL) : Prop := (∀ e ∈ L, PtOK e.1 ∧ LockOK e.2) ∧ (L.map (·.1)).Nodup
def lookL (L : LocksL) (p : PtK) : Option LockV := (L.find? (fun e => e.1 == p)).map (·.2)
/-- The phases of two stores into two cells of the call's own. -/
def stoC (w0 : World) (g1 g2 : Nat) (t1 t2 : TypeId) (o1 o2 c1 c2 : List Value) (k : Nat) (w : World) : Prop :=
  Touched [g1, g2] w0 w ∧ w.heap.size = w0.heap.size ∧ Blk w g1 t1 (if k = 0 then o1 else c1) ∧ Blk w g2 t2 (if k ≤ 1 then o2 else c2)
section
variable {w0 w : World} {g1 g2 : Nat} {t1 t2 : TypeId} {o1 o2 c1 c2 : List Value}
theorem stoC.start (h1 : Blk w0 g1 t1 o1) (h2 : Blk w0 g2 t2 o2) : stoC w0 g1 g2 t1 t2 o1 o2 c1 c2 0 w0.drew :=
  ⟨Touched.of_below (Drawn.all (Drawn.one w0)), rfl, h1.call (Drawn.all (Drawn.one w0)), h2.call (Drawn.all (Drawn.one w0))⟩
theorem stoC.put1 {n : Nat} (hn : o1.length = n) (hg : g1 ≠ g2) (h : stoC w0 g1 g2 t1 t2 o1 o2 c1 c2 0 w) : ∃ old, Blk w g1 t1 old ∧ old.length = n ∧ ∀ w', Blk w' g1 t1 c1 → w.grownBy w' (some g1) → w'.heap.size = w.heap.size → stoC w0 g1 g2 t1 t2 o1 o2 c1 c2 1 w' := by
  obtain ⟨h1, h2, h3, h4⟩ := h
  exact ⟨o1, h3, hn, fun w' hb hgr hs => ⟨h1.grown hgr (.inl (by simp)), hs.trans h2, hb, h4.grown hgr (fun e => by injection e with e; exact hg e.symm)⟩⟩
theorem stoC.put2 {n : Nat} (hn : o2.length = n) (hg : g1 ≠ g2) (h : stoC w0 g1 g2 t1 t2 o1 o2 c1 c2 1 w) : ∃ old, Blk w g2 t2 old ∧ old.length = n ∧ ∀ w', Blk w' g2 t2 c2 → w.grownBy w' (some g2) → w'.heap.size = w.heap.size → stoC w0 g1 g2 t1 t2 o1 o2 c1 c2 2 w' := by
  obtain ⟨h1, h2, h3, h4⟩ := h
  exact ⟨o2, h4, hn, fun w' hb hgr hs => ⟨h1.grown hgr (.inl (by simp)), hs.trans h2, h3.grown hgr (fun e => by injection e with e; exact hg e), hb⟩⟩
end
section
variable {P : Program} {C : Nat → World → Prop} {M : List Nat} {R : List (Nat × Nat)} {ops : Array Oper} {Q : Act → Prop} {rest : List Oper} {i : Nat} {a : Act} {o : Oper}
end
theorem ret_cct {P : Program} {fn : Func} {a : Act} {w : World} {p p2 q : Tmp} {ty ty2 : TypeId} (h : fn.results = #[.cell p ty, .cell p2 ty2, .tmp q]) {n n2 : Nat} (hT : RowT P ty n) (hT2 : RowT P ty2 n2) {g g2 : Nat} {t t2 : TypeId} {cs cs2 : List Value} (hb : Blk w g t cs) (hb2 : Blk w g2 t2 cs2) (hp : a.tmps.getD p undef = .pointer (some ⟨g, 0, none⟩)) (hp2 : a.tmps.getD p2 undef = .pointer (some ⟨g2, 0, none⟩)) (hn : cs.length = n) (hn2 : cs2.length = n2)
    {v : Value} (hq : a.tmps.getD q undef = v) (hd : a.defers = [])
    {R : Ending → World → Prop} (hR : R (.returned (.tuple #[.agg cs.toArray, .agg cs2.toArray, v])) w) : bodyPost P fn R .ret a w := by
  obtain ⟨d, hu, hdd, hi⟩ := hT
  obtain ⟨d2, hu2, hdd2, hi2⟩ := hT2
  refine bodyPost_ret (v := .tuple #[.agg cs.toArray, .agg cs2.toArray, v]) ?_ hd hR
  have hp' : a.tmps[p]?.getD undef = .pointer (some ⟨g, 0, none⟩) := by simpa using hp
  have hp2' : a.tmps[p2]?.getD undef = .pointer (some ⟨g2, 0, none⟩) := by simpa using hp2
  have hq' : a.tmps[q]?.getD undef = v := by simpa using hq
  have hload := run_loadVar_row (P := P) w g t ty cs.toArray (0, 0) d hb hu (by revert hdd; cases d <;> simp) (by rw [hi]; simp [hn])
  have hload2 := run_loadVar_row (P := P) w g2 t2 ty2 cs2.toArray (0, 0) d2 hb2 hu2 (by revert hdd2; cases d2 <;> simp) (by rw [hi2]; simp [hn2])
  simp [results, h, hp', hp2', hq', asAddr, hload, hload2]
end Go.Proofs.Ytofhohofaedokaa

/- Outputs and coins as cells: small facts. -/
namespace Go.Proofs.Ytofhohofaedokaa
open Go.RowKit
set_option linter.unusedVariables false
theorem ptV_one (p : PtK) : ∀ u ∈ ptV p, u.oneCell' = true := fun u h => by
  unfold ptV at h
  rcases List.mem_append.1 h with h | h
  · exact mapB_one _ u h
  · rw [List.mem_singleton] at h; subst h; rfl
theorem ptV_cl {p : PtK} (h : PtOK p) : Cl 33 (ptV p) := ⟨ptV_length h.1, ptV_one p⟩
theorem coinV_cl {c : CoinV} (h : CoinOK c) : Cl 33 (coinV c) := ⟨coinV_length h, coinV_one c⟩
theorem zero_point : (Try.prog.info? 83).map (·.zero) = some (some (.agg (ptV (pt 0)).toArray)) := by kernel_rfl
theorem len_point : (ptV (pt 0)).length = 33 := by simp [ptV, pt]
theorem len_coin : (coinV noCoin).length = 33 := coinV_length noCoin_ok
theorem coinV_amt {c : CoinV} (h : CoinOK c) : (coinV c)[32]? = some (.int .u64 c.2) := by
  unfold coinV; rw [List.getElem?_append_right (by simp [h.1])]; simp [h.1]
theorem ret_t_t {P : Program} {fn : Func} {a : Act} {w : World} {q r : Tmp} (h : fn.results = #[.tmp q, .tmp r]) {v u : Value} (hq : a.tmps.getD q undef = v) (hr : a.tmps.getD r undef = u) (hd : a.defers = [])
    {R : Ending → World → Prop} (hR : R (.returned (.tuple #[v, u])) w) : bodyPost P fn R .ret a w := by
  refine bodyPost_ret (v := .tuple #[v, u]) ?_ hd hR
  have hq' : a.tmps[q]?.getD undef = v := by simpa using hq
  have hr' : a.tmps[r]?.getD undef = u := by simpa using hr
  simp [results, h, hq', hr']
theorem pt_self (p : PtK) (h : PtOK p) : ∀ w, (Op.equalIn 10000 83 (.agg (ptV p).toArray) (.agg (ptV p).toArray)).run Try.prog w = .ok true w := fun w => by
  have := eql_pt p p h h w
  rwa [decide_eq_true rfl] at this
theorem zero_penC : (Try.prog.info? 72).map (·.zero) = some (some (.agg ([Value.slice none 0 0]).toArray)) := by kernel_rfl
end Go.Proofs.Ytofhohofaedokaa

/- The document's marks: Right, Same, Compare; rows of them. -/
namespace Go.Proofs.Ytofhohofaedokaa
open Go.RowKit
set_option linter.unusedVariables false
set_option maxRecDepth 100000 in
set_option maxHeartbeats 2000000 in
theorem rright20_any (m : Mrk) (w : World) (h : m.ok) : Calls Try.prog 18 #[markA m] w fun e w' => e = .returned (.bool (rightM m)) ∧ Below w.heap.size w w' := by
  have HXC := Lib.hid (mark_cl h)
  have HRE := Lib.hid (fun w => reright_any m.e w h.1)
  have HRH := Lib.hid (fun w => rhright_any m.h w h.2.1)
  have HE := Lib.hid (fun (j : Nat) u (hu : (entV m.e)[j]? = some u) => mark_ent h hu)
  have HH := Lib.hid (fun (j : Nat) u (hu : (hdrV m.h)[j]? = some u) => mark_hdr h hu)
  have HP := Lib.hid (mark_path h); have HX := Lib.hid (mark_exp h)
  have LE := Lib.hid (entV_length h.1); have LH := Lib.hid (hdrV_length h.2.1)
  obtain ⟨res, hres⟩ : ∃ q, q = rightM m := ⟨_, rfl⟩
  have HRES := Lib.hid (show res = (rightE m.e && rightH m.h && decide (m.pn ≤ 32) && inB m.expiry 0 1099511627776) from hres)
  rw [← hres]
  unfold markA
  obtain ⟨b1, hb1⟩ : ∃ q, q = rightE m.e := ⟨_, rfl⟩
  obtain ⟨b2, hb2⟩ : ∃ q, q = rightH m.h := ⟨_, rfl⟩
  rw [← hb1] at HRE HRES; rw [← hb2] at HRH HRES
  obtain ⟨xs, hxs⟩ : ∃ q, q = markV m := ⟨_, rfl⟩
  rw [← hxs] at HXC HE HH HP HX ⊢
  obtain ⟨es, hes⟩ : ∃ q, q = entV m.e := ⟨_, rfl⟩
  obtain ⟨hs, hhs⟩ : ∃ q, q = hdrV m.h := ⟨_, rfl⟩
  rw [← hes] at HRE HE LE; rw [← hhs] at HRH HH LH
  obtain ⟨pA, hpA⟩ : ∃ q, q = m.pA := ⟨_, rfl⟩
  obtain ⟨pn, hpn⟩ : ∃ q, q = m.pn := ⟨_, rfl⟩
  obtain ⟨pc, hpc⟩ : ∃ q, q = m.pc := ⟨_, rfl⟩
  obtain ⟨ex, hex⟩ : ∃ q, q = m.expiry := ⟨_, rfl⟩
  rw [← hpA, ← hpn, ← hpc] at HP
  rw [← hpn, ← hex] at HRES
  rw [← hex] at HX
  clear hres hb1 hb2 hxs hes hhs hpA hpn hpc hex h
  obtain ⟨w_, hw⟩ : ∃ x, x = w := ⟨_, rfl⟩
  have HB := Lib.hid (show Below w.heap.size w w_ by rw [hw]; exact Below.refl _ _)
  suffices H : Calls Try.prog 18 #[.agg xs.toArray] w_ fun e w' => e = .returned (.bool res) ∧ Below w.heap.size w w' by rw [hw] at H; exact H
  clear hw
  go_enter Try.func18, Try.ntmps18
  go_wp2_with (first | (with_reducible refine wpl_box (o := ⟨some 1, _, _, _, _, _⟩) rfl rfl rfl ?_))
  intro w2_ hb2_ hb_ hsz2_
  have HX_ := Lib.hid (at_mk hb2_ HXC.out.len)
  clear hb2_ hsz2_
  have HG_ := Lib.hid HB.out.size
  have HB_ := Lib.hid (HB.out.grow' hb_)
  clear HB
  have HB := HB_
  clear HB_
  generalize hg_ : w_.heap.size = g1 at HX_ HG_ ⊢
  clear hg_
  have HM_g := HG_
  clear HG_
  have HM := HX_
  clear hb_ HX_
  try clear w_
  rename World => w_
  have ME := Lib.hid (show ∀ j u, es[j]? = some u → w_.cell? ⟨g1, 0 + j, none⟩ = some u from fun j u hu => by rw [Nat.zero_add]; exact HM.out.blk.at_ (HE.out j u hu))
  go_wp2_with (first | (with_reducible refine wpl_loadm (o := ⟨some 5, _, _, _, _, _⟩) rfl rfl row_entry ME.out rfl LE.out ?_))
  refine (HRE.out _).mono ?_
  clear ME
  rintro e w_ ⟨rfl, hb_⟩
  have HB_ := Lib.hid (HB.out.grow' hb_)
  clear HB
  have HB := HB_
  clear HB_
  have HM_ := Lib.hid (HM.out.grow hb_)
  clear HM
  have HM := HM_
  clear HM_
  clear hb_
  cases b1 with
  | false =>
    have HR := Lib.hid (show res = false by rw [HRES.out]; rfl)
    go_wp2_with fail
    go_ret
    exact ⟨(by rw [HR.out]; rfl), HB.out⟩
  | true =>
  have MH := Lib.hid (show ∀ j u, hs[j]? = some u → w_.cell? ⟨g1, 38 + j, none⟩ = some u from fun j u hu => HM.out.blk.at_ (HH.out j u hu))
  go_wp2_with (first | (with_reducible refine wpl_loadmw (o := ⟨some _, .load _ _, _, _, _, _⟩) (by first | rfl | (go_simp; done) | fail) rfl row_header MH.out rfl LH.out ?_))
  refine (HRH.out _).mono ?_
  clear MH
  rintro e w_ ⟨rfl, hb_⟩
  have HB_ := Lib.hid (HB.out.grow' hb_)
  clear HB
  have HB := HB_
  clear HB_
  have HM_ := Lib.hid (HM.out.grow hb_)
  clear HM
  have HM := HM_
  clear HM_
  clear hb_
  cases b2 with
  | false =>
    have HR := Lib.hid (show res = false by rw [HRES.out]; rfl)
    go_wp2_with fail
    go_ret
    exact ⟨(by rw [HR.out]; rfl), HB.out⟩
  | true =>
  have c37 := HM.out.blk.at_ HP.out
  have c137 := HM.out.blk.at_ HX.out
  by_cases h32 : pn ≤ 32
  rotate_left
  · have HR := Lib.hid (show res = false by rw [HRES.out]; simp; omega)
    have d1 : decide ((pn : Int) ≤ 32) = false := by simp; omega
    have d2 : ((pn : Int) ≤ 32) = False := eq_false (by omega)
    clear h32
    go_wp2_with fail
    go_ret
    exact ⟨(by rw [HR.out]; rfl), HB.out⟩
  have d1 : decide ((pn : Int) ≤ 32) = true := by simp; omega
  have d2 : ((pn : Int) ≤ 32) = True := eq_true (by omega)
  have h32' := h32
  clear h32
  by_cases h0 : 0 ≤ ex
  rotate_left
  · have HR := Lib.hid (show res = false by rw [HRES.out]; unfold inB; simp; omega)
    have d3 : decide (0 ≤ ex) = false := by simpa using h0
    clear h0 h32'
    go_wp2_with fail
    go_ret
    exact ⟨(by rw [HR.out]; rfl), HB.out⟩
  have d3 : decide (0 ≤ ex) = true := by simpa using h0
  by_cases h1 : ex ≤ 1099511627776
  rotate_left
  · have HR := Lib.hid (show res = false by rw [HRES.out]; unfold inB; simp; omega)
    have d4 : decide (ex ≤ 1099511627776) = false := by simpa using h1
    clear h1 h0 h32'
    go_wp2_with fail
    go_ret
    exact ⟨(by rw [HR.out]; rfl), HB.out⟩
  have d4 : decide (ex ≤ 1099511627776) = true := by simpa using h1
  have HR := Lib.hid (show res = true by rw [HRES.out]; unfold inB; simp; omega)
  clear h1 h0 h32'
  go_wp2_with fail
  go_ret
  exact ⟨(by rw [HR.out]; rfl), HB.out⟩
/-- The certificate of a mark. -/
def cerM (m : Mrk) (ds : List (List UInt8)) : Cer := ⟨m.e, ds, m.h, m.tag⟩
abbrev AMk := Cer × Int
def absM (m : Mrk) (ds : List (List UInt8)) : AMk := (cerM m ds, m.expiry)
theorem cerM_ok {m : Mrk} {ds : List (List UInt8)} (h : m.ok) (hd : ∀ d ∈ ds, d.length = 32) : (cerM m ds).ok := ⟨h.1, hd, h.2.1, h.2.2.1⟩
theorem mark_cert {m : Mrk} {ds : List (List UInt8)} {j : Nat} {u : Value} (hu : (certV (.slice m.pA m.pn m.pc) (cerM m ds))[j]? = some u) : (markV m)[0 + j]? = some u := by
  have e : markV m = certV (.slice m.pA m.pn m.pc) (cerM m ds) ++ [.int .i64 m.expiry] := by unfold markV certV cerM; simp
  rw [Nat.zero_add, e, List.getElem?_append_left (List.getElem?_eq_some_iff.1 hu).1]; exact hu
set_option maxRecDepth 100000 in
set_option maxHeartbeats 2000000 in
theorem rsame20_any {res : Bool} {m1 m2 : Mrk} {d1 d2 : List (List UInt8)} (hres : decide (absM m1 d1 = absM m2 d2) = res) (w : World) (h1 : m1.ok) (h2 : m2.ok) (p1 : PathAt w m1 d1) (p2 : PathAt w m2 d2) :
    Calls Try.prog 14 #[markA m1, markA m2] w fun e w' => e = .returned (.bool res) ∧ Below w.heap.size w w' := by
  have HC1 := Lib.hid (mark_cl h1); have HC2 := Lib.hid (mark_cl h2)
  have HX1 := Lib.hid (mark_exp h1); have HX2 := Lib.hid (mark_exp h2)
  have k1 := cerM_ok (ds := d1) h1 p1.2.2.1; have k2 := cerM_ok (ds := d2) h2 p2.2.2.1
  have LC1 := Lib.hid (certV_len (v := .slice m1.pA m1.pn m1.pc) k1); have LC2 := Lib.hid (certV_len (v := .slice m2.pA m2.pn m2.pc) k2)
  have ME1 := Lib.hid (fun j u hu => mark_cert (m := m1) (ds := d1) (j := j) (u := u) hu); have ME2 := Lib.hid (fun j u hu => mark_cert (m := m2) (ds := d2) (j := j) (u := u) hu)
  obtain ⟨rc, hrc⟩ : ∃ q, decide (cerM m1 d1 = cerM m2 d2) = q := ⟨_, rfl⟩
  have HRC := Lib.hid (fun (w' : World) (hg : Grow w w') => rcsame_any hrc w' k1 k2 h1.2.2.2.2 (p1.grow hg) (p2.grow hg))
  have HRES := Lib.hid (show res = (decide (m1.expiry = m2.expiry) && rc) by rw [← hres, ← hrc]; unfold absM; simp [Prod.ext_iff, and_comm, Bool.and_comm])
  unfold markA
  obtain ⟨x1, hx1⟩ : ∃ q, q = m1.expiry := ⟨_, rfl⟩
  obtain ⟨x2, hx2⟩ : ∃ q, q = m2.expiry := ⟨_, rfl⟩
  rw [← hx1] at HX1 HRES; rw [← hx2] at HX2 HRES
  obtain ⟨a1, ha1⟩ : ∃ q, q = markV m1 := ⟨_, rfl⟩
  obtain ⟨a2, ha2⟩ : ∃ q, q = markV m2 := ⟨_, rfl⟩
  rw [← ha1] at HC1 HX1 ME1 ⊢; rw [← ha2] at HC2 HX2 ME2 ⊢
  obtain ⟨c1, hc1⟩ : ∃ q, q = certV (.slice m1.pA m1.pn m1.pc) (cerM m1 d1) := ⟨_, rfl⟩
  obtain ⟨c2, hc2⟩ : ∃ q, q = certV (.slice m2.pA m2.pn m2.pc) (cerM m2 d2) := ⟨_, rfl⟩
  rw [← hc1] at LC1 ME1 HRC; rw [← hc2] at LC2 ME2 HRC
  clear hres hx1 hx2 ha1 ha2 hc1 hc2 k1 k2 h1 h2 p1 p2 hrc
  obtain ⟨w_, hw⟩ : ∃ x, x = w := ⟨_, rfl⟩
  have HB := Lib.hid (show Below w.heap.size w w_ by rw [hw]; exact Below.refl _ _)
  suffices H : Calls Try.prog 14 #[.agg a1.toArray, .agg a2.toArray] w_ fun e w' => e = .returned (.bool res) ∧ Below w.heap.size w w' by rw [hw] at H; exact H
  clear hw
  go_enter Try.func14, Try.ntmps14
  go_wp2_with (first | (with_reducible refine wpl_box (o := ⟨some 2, _, _, _, _, _⟩) rfl rfl rfl ?_))
  intro w2_ hb2_ hb_ hsz2_
  have HX_ := Lib.hid (at_mk hb2_ HC1.out.len)
  clear hb2_ hsz2_
  have HG_ := Lib.hid HB.out.size
  have HB_ := Lib.hid (HB.out.grow' hb_)
  clear HB
  have HB := HB_
  clear HB_
  generalize hg_ : w_.heap.size = g1 at HX_ HG_ ⊢
  clear hg_
  have HM_g := HG_
  clear HG_
  have HM := HX_
  clear hb_ HX_
  try clear w_
  rename World => w_
  go_wp2_with (first | (with_reducible refine wpl_box (o := ⟨some 3, _, _, _, _, _⟩) rfl rfl rfl ?_))
  intro w2_ hb2_ hb_ hsz2_
  have HX_ := Lib.hid (at_mk hb2_ HC2.out.len)
  clear hb2_ hsz2_
  have HG_ := Lib.hid HB.out.size
  have HB_ := Lib.hid (HB.out.grow' hb_)
  clear HB
  have HB := HB_
  clear HB_
  have HM_ := Lib.hid (HM.out.grow hb_)
  clear HM
  have HM := HM_
  clear HM_
  generalize hg_ : w_.heap.size = g2 at HX_ HG_ ⊢
  clear hg_
  have HN_g := HG_
  clear HG_
  have HN := HX_
  clear hb_ HX_
  try clear w_
  rename World => w_
  have e1 := HM.out.blk.at_ HX1.out
  have e2 := HN.out.blk.at_ HX2.out
  by_cases hx : x1 = x2
  rotate_left
  · have HR := Lib.hid (show res = false by rw [HRES.out]; simp [hx])
    have z1 : (x1 == x2) = false := by simpa using hx
    clear hx
    go_wp2_with fail
    go_ret
    exact ⟨(by rw [HR.out]; rfl), HB.out⟩
  have HR := Lib.hid (show res = rc by rw [HRES.out]; simp [hx])
  have z1 : (x1 == x2) = true := by simpa using hx
  clear hx
  have M1 := Lib.hid (fun j u hu => HM.out.blk.at_ (ME1.out j u hu)); have M2 := Lib.hid (fun j u hu => HN.out.blk.at_ (ME2.out j u hu))
  go_wp2_with (first | (with_reducible refine wpl_loadmw (o := ⟨some 12, _, _, _, _, _⟩) (by first | rfl | (go_simp; done) | fail) rfl row_cert M1.out rfl LC1.out ?_) | (with_reducible refine wpl_loadmw (o := ⟨some 14, _, _, _, _, _⟩) (by first | rfl | (go_simp; done) | fail) rfl row_cert M2.out rfl LC2.out ?_))
  refine (HRC.out _ HB.out).mono ?_
  rintro e w2_ ⟨rfl, hb_⟩
  have HB2 := Lib.hid (HB.out.grow' hb_)
  clear hb_
  go_wp2_with fail
  go_ret
  exact ⟨(by rw [HR.out]; rfl), HB2.out⟩
/-- A row's element: a key and a mark. -/
def encAtM (e : MKey × Mrk) : List Value := mkV e.1 ++ markV e.2
def AtOKM (e : MKey × Mrk) : Prop := MKOK e.1 ∧ e.2.ok
theorem encAtM_len {e : MKey × Mrk} (h : AtOKM e) : (encAtM e).length = 171 := by unfold encAtM; rw [List.length_append, mkV_length h.1, markV_length h.2]
theorem encAtM_one (e : MKey × Mrk) : ∀ u ∈ encAtM e, u.oneCell' = true := fun u hu => by
  unfold encAtM at hu
  rcases List.mem_append.1 hu with h | h
  · unfold mkV at h
    rcases List.mem_cons.1 h with rfl | h
    · rfl
    · exact all_bytes _ u h
  · exact markV_one e.2 u h
theorem encAtM_cl {e : MKey × Mrk} (h : AtOKM e) : Cl 171 (encAtM e) := ⟨encAtM_len h, encAtM_one e⟩
theorem encAtM_part (e : MKey × Mrk) : (encAtM e)[0]? = some (.int .i64 e.1.1) := rfl
theorem encAtM_id {e : MKey × Mrk} (h : AtOKM e) {j : Nat} {u : Value} (hu : (e.1.2.map B)[j]? = some u) : (encAtM e)[1 + j]? = some u := by
  unfold encAtM mkV
  rw [List.cons_append, Nat.add_comm, List.getElem?_cons_succ, List.getElem?_append_left (List.getElem?_eq_some_iff.1 hu).1]; exact hu
theorem encAtM_mark {e : MKey × Mrk} (h : AtOKM e) {j : Nat} {u : Value} (hu : (markV e.2)[j]? = some u) : (encAtM e)[33 + j]? = some u := by
  have h1 := mkV_length h.1
  unfold encAtM; rw [List.getElem?_append_right (by omega), h1, show 33 + j - 33 = j by omega]; exact hu
theorem encAtM_exp {e : MKey × Mrk} (h : AtOKM e) : (encAtM e)[170]? = some (.int .i64 e.2.expiry) := encAtM_mark h (mark_exp h.2)
def RowM (w : World) (A : Option Addr) (n : Nat) (l : MarksL) : Prop := Sl w w.heap.size 171 A n (l.flatMap encAtM) ∧ (∀ e ∈ l, AtOKM e) ∧ l.length = n
theorem RowM.grow {w w' : World} {A : Option Addr} {n : Nat} {l : MarksL} (h : RowM w A n l) (hb : Below w.heap.size w w') : RowM w' A n l := ⟨(h.1.below hb).more hb.size, h.2⟩
theorem row_at20 : RowT Try.prog 44 171 := ⟨_, Try.underlying44, by kernel_rfl, by kernel_rfl⟩
theorem info_at20 : (Try.prog.info? 44).map (fun i => (i.zero, i.size, i.bytes)) = some (some (.agg (encAtM ((0, List.replicate 32 0), noMrk)).toArray), 171, 264) := by kernel_rfl
theorem el_at20 : ElemT Try.prog 26 44 171 264 := elemT Try.underlying26 info_at20 rfl (by omega)
theorem built_pm0 (parts : List (Nat × Value)) : Try.prog.built 83 parts = Instr.fill (fun i => (#[(0, 32), (32, 1)] : Array (Nat × Nat))[i]?) (ptV (List.replicate 32 0, 0)).toArray parts := by kernel_rfl
theorem built_pm {d : List UInt8} (hd : d.length = 32) : Try.prog.built 83 [(0, .agg (d.map B).toArray)] = some (ptV (d, 0)).toArray := by
  have l1 : (d.map B).length = 32 := by rw [List.length_map, hd]
  rw [built_pm0, fill_cons (off := 0) (s := 32) (cs := d.map B) rfl rfl l1 (by simp [ptV]), fill_nil]
  refine congrArg (fun l : List Value => some l.toArray) ?_
  unfold splice ptV
  rw [l1]
  simp
set_option maxRecDepth 100000 in
set_option maxHeartbeats 2000000 in
theorem rcmp20_any (x y : MKey × Mrk) (w : World) (hx : AtOKM x) (hy : AtOKM y) :
    Calls Try.prog 19 #[.agg (encAtM x).toArray, .agg (encAtM y).toArray] w fun e w' => e = .returned (.int .i64 (cmpK2 x.1 y.1)) ∧ Below w.heap.size w w' := by
  have HC1 := Lib.hid (encAtM_cl hx); have HC2 := Lib.hid (encAtM_cl hy)
  have HP1 := Lib.hid (encAtM_part x); have HP2 := Lib.hid (encAtM_part y)
  have HI1 := Lib.hid (fun j u hu => encAtM_id hx (j := j) (u := u) hu); have HI2 := Lib.hid (fun j u hu => encAtM_id hy (j := j) (u := u) hu)
  have LI1 := Lib.hid (show (x.1.2.map B).length = 32 by rw [List.length_map, hx.1.2]); have LI2 := Lib.hid (show (y.1.2.map B).length = 32 by rw [List.length_map, hy.1.2])
  have BP1 := Lib.hid (built_pm hx.1.2); have BP2 := Lib.hid (built_pm hy.1.2)
  have HCM := Lib.hid (fun w => rccmp_any (x.1.2, 0) (y.1.2, 0) w hx.1.2 hy.1.2)
  have HRES := Lib.hid (show cmpK2 x.1 y.1 = if cmpI x.1.1 y.1.1 = 0 then cmpP (x.1.2, 0) (y.1.2, 0) else cmpI x.1.1 y.1.1 by
    unfold cmpK2 cmpP
    have e : cmpI 0 0 = 0 := by decide
    simp only [e]
    split
    · split <;> simp_all
    · rfl)
  obtain ⟨res, hres⟩ : ∃ q, q = cmpK2 x.1 y.1 := ⟨_, rfl⟩
  rw [← hres] at HRES ⊢
  obtain ⟨cp, hcp⟩ : ∃ q, q = cmpP (x.1.2, 0) (y.1.2, 0) := ⟨_, rfl⟩
  rw [← hcp] at HCM HRES
  obtain ⟨p1, hp1⟩ : ∃ q, q = x.1.1 := ⟨_, rfl⟩
  obtain ⟨p2, hp2⟩ : ∃ q, q = y.1.1 := ⟨_, rfl⟩
  rw [← hp1] at HP1 HRES; rw [← hp2] at HP2 HRES
  obtain ⟨i1, hi1⟩ : ∃ q, q = x.1.2.map B := ⟨_, rfl⟩
  obtain ⟨i2, hi2⟩ : ∃ q, q = y.1.2.map B := ⟨_, rfl⟩
  rw [← hi1] at HI1 LI1 BP1; rw [← hi2] at HI2 LI2 BP2
  obtain ⟨t1, ht1⟩ : ∃ q, q = ptV (x.1.2, 0) := ⟨_, rfl⟩
  obtain ⟨t2, ht2⟩ : ∃ q, q = ptV (y.1.2, 0) := ⟨_, rfl⟩
  rw [← ht1] at BP1 HCM; rw [← ht2] at BP2 HCM
  obtain ⟨xs, hxs⟩ : ∃ q, q = encAtM x := ⟨_, rfl⟩
  obtain ⟨ys, hys⟩ : ∃ q, q = encAtM y := ⟨_, rfl⟩
  rw [← hxs] at HC1 HP1 HI1 ⊢; rw [← hys] at HC2 HP2 HI2 ⊢
  clear hres hcp hp1 hp2 hi1 hi2 ht1 ht2 hxs hys hx hy
  obtain ⟨w_, hw⟩ : ∃ x, x = w := ⟨_, rfl⟩
  have HB := Lib.hid (show Below w.heap.size w w_ by rw [hw]; exact Below.refl _ _)
  suffices H : Calls Try.prog 19 #[.agg xs.toArray, .agg ys.toArray] w_ fun e w' => e = .returned (.int .i64 res) ∧ Below w.heap.size w w' by rw [hw] at H; exact H
  clear hw
  go_enter Try.func19, Try.ntmps19
  go_wp2_with (first | (with_reducible refine wpl_box (o := ⟨some 2, _, _, _, _, _⟩) rfl rfl rfl ?_))
  intro w2_ hb2_ hb_ hsz2_
  have HX_ := Lib.hid (at_mk hb2_ HC1.out.len)
  clear hb2_ hsz2_
  have HG_ := Lib.hid HB.out.size
  have HB_ := Lib.hid (HB.out.grow' hb_)
  clear HB
  have HB := HB_
  clear HB_
  generalize hg_ : w_.heap.size = g1 at HX_ HG_ ⊢
  clear hg_
  have HM_g := HG_
  clear HG_
  have HM := HX_
  clear hb_ HX_
  try clear w_
  rename World => w_
  go_wp2_with (first | (with_reducible refine wpl_box (o := ⟨some 3, _, _, _, _, _⟩) rfl rfl rfl ?_))
  intro w2_ hb2_ hb_ hsz2_
  have HX_ := Lib.hid (at_mk hb2_ HC2.out.len)
  clear hb2_ hsz2_
  have HG_ := Lib.hid HB.out.size
  have HB_ := Lib.hid (HB.out.grow' hb_)
  clear HB
  have HB := HB_
  clear HB_
  have HM_ := Lib.hid (HM.out.grow hb_)
  clear HM
  have HM := HM_
  clear HM_
  generalize hg_ : w_.heap.size = g2 at HX_ HG_ ⊢
  clear hg_
  have HN_g := HG_
  clear HG_
  have HN := HX_
  clear hb_ HX_
  try clear w_
  rename World => w_
  have e1 := HM.out.blk.at_ HP1.out
  have e2 := HN.out.blk.at_ HP2.out
  by_cases hlt : p1 < p2
  · have HR := Lib.hid (show res = -1 by rw [HRES.out]; unfold cmpI; rw [if_pos hlt]; rfl)
    have z1 : decide (p1 < p2) = true := by simpa using hlt
    clear hlt
    go_wp2_with fail
    go_ret
    exact ⟨(by rw [HR.out]; rfl), HB.out⟩
  have z1 : decide (p1 < p2) = false := by simpa using hlt
  by_cases hgt : p2 < p1
  · have HR := Lib.hid (show res = 1 by rw [HRES.out]; unfold cmpI; rw [if_neg hlt, if_pos hgt]; rfl)
    have z2 : decide (p2 < p1) = true := by simpa using hgt
    clear hlt hgt
    go_wp2_with fail
    go_ret
    exact ⟨(by rw [HR.out]; rfl), HB.out⟩
  have HR := Lib.hid (show res = cp by rw [HRES.out]; unfold cmpI; rw [if_neg hlt, if_neg hgt]; rfl)
  have z2 : decide (p2 < p1) = false := by simpa using hgt
  clear hlt hgt
  have M1 := Lib.hid (fun j u hu => HM.out.blk.at_ (HI1.out j u hu)); have M2 := Lib.hid (fun j u hu => HN.out.blk.at_ (HI2.out j u hu))
  go_wp2_with (first | (with_reducible refine wpl_loadm (o := ⟨some 16, _, _, _, _, _⟩) rfl rfl row_aid M1.out rfl LI1.out ?_) | (with_reducible refine wpl_loadm (o := ⟨some 19, _, _, _, _, _⟩) rfl rfl row_aid M2.out rfl LI2.out ?_) | (with_reducible refine wpl_stop (o := ⟨some 17, _, _, _, _, _⟩) ?_))
  refine stop_go ?_
  refine wpl_build rfl rfl BP1.out ?_
  go_wp2_with (first | (with_reducible refine wpl_loadm (o := ⟨some 19, _, _, _, _, _⟩) rfl rfl row_aid M2.out rfl LI2.out ?_) | (with_reducible refine wpl_stop (o := ⟨some 20, _, _, _, _, _⟩) ?_))
  refine stop_go ?_
  refine wpl_build rfl rfl BP2.out ?_
  go_wp2_with fail
  refine (HCM.out _).mono ?_
  rintro e w2_ ⟨rfl, hb_⟩
  have HB2 := Lib.hid (HB.out.grow' hb_)
  clear hb_
  go_wp2_with fail
  go_ret
  exact ⟨(by rw [HR.out]; rfl), HB2.out⟩
end Go.Proofs.Ytofhohofaedokaa

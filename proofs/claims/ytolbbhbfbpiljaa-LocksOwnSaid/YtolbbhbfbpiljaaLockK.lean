/- Plain facts for LocksOwn. -/
import Derived.Test.YtolbbhbfbpiljaaLockJ
namespace Go.Proofs.Ytolbbhbfbpiljaa
open Go.RowKit Go.Sort
set_option linter.unusedVariables false
def fI (is : List UInt8) (j : Nat) : Nat := (is[j]?.getD 0).toNat
theorem fI_lt (is : List UInt8) (j : Nat) : fI is j < 256 := (is[j]?.getD 0).toNat_lt
def LO (is : List UInt8) (k : Nat) : LocksL := (List.range k).map fun j => (pk j 0, (cn ((j : Int) + 1), idx (fI is j)))
def sumA (L : LocksL) : Int := (L.map fun e => e.2.1.2).sum
def cntO (is : List UInt8) (k v : Nat) : Nat := ((List.range k).filter fun j => fI is j == v).length
theorem LO_succ (is : List UInt8) (k : Nat) : LO is (k + 1) = LO is k ++ [(pk k 0, (cn ((k : Int) + 1), idx (fI is k)))] := by unfold LO; rw [List.range_succ]; simp
theorem LO_length (is : List UInt8) (k : Nat) : (LO is k).length = k := by simp [LO]
theorem idx_inj {x y : Nat} (hx : x < 256) (hy : y < 256) (h : idx x = idx y) : x = y := by
  unfold idx at h
  simp only [List.cons.injEq] at h
  have := congrArg UInt8.toNat h.1
  rw [UInt8.toNat_ofNat', UInt8.toNat_ofNat'] at this
  omega
theorem LO_mem {is : List UInt8} {k : Nat} {e : PtK × LockV} (h : e ∈ LO is k) : ∃ j, j < k ∧ e = (pk j 0, (cn ((j : Int) + 1), idx (fI is j))) := by
  obtain ⟨j, hj, rfl⟩ := List.mem_map.1 h
  exact ⟨j, by simpa using hj, rfl⟩
theorem LO_in {is : List UInt8} {k j : Nat} (h : j < k) : (pk j 0, (cn ((j : Int) + 1), idx (fI is j))) ∈ LO is k := List.mem_map.2 ⟨j, by simpa using h, rfl⟩
theorem LO_nd {is : List UInt8} : ∀ {k : Nat}, k ≤ 256 → ((LO is k).map (·.1)).Nodup
  | 0, _ => by simp [LO]
  | k + 1, h => by
    rw [LO_succ, List.map_append, List.nodup_append]
    refine ⟨LO_nd (by omega), by simp, fun a ha b hb e => ?_⟩
    obtain ⟨x, hx, rfl⟩ := List.mem_map.1 ha
    obtain ⟨j, hj, rfl⟩ := LO_mem hx
    have hb2 : b = pk k 0 := by simpa using hb
    rw [hb2] at e
    have := (pk_inj (by omega) (by omega) e).1
    omega
theorem sumA_append (L M : LocksL) : sumA (L ++ M) = sumA L + sumA M := by unfold sumA; rw [List.map_append, List.sum_append_int]
theorem sumA_one (e : PtK × LockV) : sumA [e] = e.2.1.2 := by unfold sumA; simp
theorem sumA_LO (is : List UInt8) : ∀ k : Nat, k ≤ 60 → 0 ≤ sumA (LO is k) ∧ sumA (LO is k) ≤ 61 * k
  | 0, _ => by simp [LO, sumA]
  | k + 1, h => by
    have h1 := sumA_LO is k (by omega)
    rw [LO_succ, sumA_append, sumA_one]
    have : (cn ((k : Int) + 1)).2 = (k : Int) + 1 := rfl
    simp only [this]
    omega
theorem putQ_LO (is : List UInt8) (k : Nat) (hk : k < 60) : putQ (LO is k) (sumA (LO is k)) (pk k 0) (cn ((k : Int) + 1)) = 0 ∧ (addE (sumA (LO is k)) ((k : Int) + 1)).1 = sumA (LO is (k + 1)) := by
  have h1 := sumA_LO is k (by omega)
  have hc : (cn ((k : Int) + 1)).2 = (k : Int) + 1 := rfl
  have e : addE (sumA (LO is k)) ((k : Int) + 1) = (sumA (LO is k) + ((k : Int) + 1), 0) := by unfold addE; rw [if_pos (by omega)]
  have hn : lookL (LO is k) (pk k 0) = none := lookL_no fun x hx h => by
    obtain ⟨j, hj, rfl⟩ := LO_mem hx
    have := (pk_inj (by omega) (by omega) h).1
    omega
  refine ⟨?_, ?_⟩
  · unfold putQ
    rw [hn, LO_length, hc, if_neg (show ¬ ((pk k 0).2 < 0 ∨ 16 ≤ (pk k 0).2 ∨ (k : Int) + 1 = 0 ∨ 4611686018427387904 < (k : Int) + 1) by have : (pk k 0).2 = 0 := rfl; omega), if_neg (by simp), if_neg (by omega), e]
  · rw [e, LO_succ, sumA_append, sumA_one]; rfl
theorem held_LO (is : List UInt8) (v : Nat) (hv : v < 256) : ∀ k : Nat, ((LO is k).filter fun e => decide (e.2.2 = idx v)).length = cntO is k v
  | 0 => by simp [LO, cntO]
  | k + 1 => by
    have h1 := held_LO is v hv k
    rw [LO_succ, List.filter_append, List.length_append, h1]
    unfold cntO
    rw [List.range_succ, List.filter_append, List.length_append]
    congr 1
    by_cases h : fI is k = v
    · simp [h]
    · have : ¬ idx (fI is k) = idx v := fun e => h (idx_inj (fI_lt is k) hv e)
      simp [h, this]
theorem cnt_succ (is : List UInt8) (k v : Nat) : cntO is (k + 1) v = cntO is k v + if fI is k = v then 1 else 0 := by
  unfold cntO
  rw [List.range_succ, List.filter_append, List.length_append]
  by_cases h : fI is k = v <;> simp [h]
theorem cnt_le (is : List UInt8) (k v : Nat) : cntO is k v ≤ k := by
  unfold cntO
  have := List.length_filter_le (fun j => fI is j == v) (List.range k)
  simpa using this
def nsV (is : List UInt8) (k : Nat) : List Value := (List.range 256).map fun v => .int .i64 (cntO is k v : Int)
theorem nsV_length (is : List UInt8) (k : Nat) : (nsV is k).length = 256 := by simp [nsV]
theorem nsV_get (is : List UInt8) (k v : Nat) (hv : v < 256) : (nsV is k)[v]? = some (.int .i64 (cntO is k v : Int)) := by
  unfold nsV
  rw [List.getElem?_map, List.getElem?_range hv]; rfl
theorem nsV_set (is : List UInt8) (k : Nat) : (nsV is k).set (fI is k) (.int .i64 ((cntO is k (fI is k) : Int) + 1)) = nsV is (k + 1) := by
  have hf := fI_lt is k
  apply List.ext_getElem?
  intro v
  by_cases hv : v < 256
  · rw [nsV_get is (k + 1) v hv, List.getElem?_set, nsV_length, cnt_succ]
    by_cases h : fI is k = v
    · rw [if_pos h, if_pos (by omega), if_pos h, h]; rfl
    · rw [if_neg h, if_neg h, nsV_get is k v hv]; rfl
  · rw [List.getElem?_eq_none (by rw [List.length_set, nsV_length]; omega), List.getElem?_eq_none (by rw [nsV_length]; omega)]
theorem nsV_zero (is : List UInt8) : nsV is 0 = List.replicate 256 (.int .i64 0) := by
  have : ∀ v, cntO is 0 v = 0 := fun v => by simp [cntO]
  unfold nsV
  simp only [this]
  apply List.ext_getElem?
  intro v
  by_cases hv : v < 256
  · rw [List.getElem?_map, List.getElem?_range hv, List.getElem?_replicate, if_pos hv]; rfl
  · rw [List.getElem?_eq_none (by rw [List.length_map, List.length_range]; omega), List.getElem?_eq_none (by rw [List.length_replicate]; omega)]
theorem dropL_filter : ∀ (L : LocksL) (p : PtK), (L.map (·.1)).Nodup → dropL L p = L.filter fun e => !(e.1 == p)
  | [], p, _ => rfl
  | e :: L, p, h => by
    rw [List.map_cons, List.nodup_cons] at h
    unfold dropL
    by_cases he : (e.1 == p) = true
    · rw [List.eraseP_cons_of_pos (p := fun e : PtK × LockV => e.1 == p) he, List.filter_cons_of_neg (by simp only [he]; decide)]
      refine (List.filter_eq_self.2 fun x hx => ?_).symm
      have : x.1 ≠ p := fun hxp => h.1 (by rw [eq_of_beq he, ← hxp]; exact List.mem_map_of_mem hx)
      simp [this]
    · rw [List.eraseP_cons_of_neg (p := fun e : PtK × LockV => e.1 == p) he, List.filter_cons_of_pos (by simp only [Bool.eq_false_iff.2 he]; decide)]
      congr 1
      exact dropL_filter L p h.2
theorem sumA_drop : ∀ {L : LocksL} {p : PtK} {c : LockV}, lookL L p = some c → sumA (dropL L p) = sumA L - c.1.2
  | [], p, c, h => by simp [lookL] at h
  | e :: L, p, c, h => by
    unfold lookL at h
    unfold dropL
    by_cases he : (e.1 == p) = true
    · rw [List.find?_cons_of_pos (by exact he)] at h
      rw [List.eraseP_cons_of_pos (p := fun e : PtK × LockV => e.1 == p) he]
      have : e.2 = c := by simpa using h
      unfold sumA
      rw [List.map_cons, List.sum_cons, this]; omega
    · rw [List.find?_cons_of_neg (by simpa using he)] at h
      rw [List.eraseP_cons_of_neg (p := fun e : PtK × LockV => e.1 == p) he]
      have h1 := sumA_drop (L := L) (p := p) (c := c) h
      unfold sumA at h1 ⊢
      unfold dropL at h1
      rw [List.map_cons, List.sum_cons, List.map_cons, List.sum_cons, h1]; omega
theorem sumA_ge : ∀ {L : LocksL} {p : PtK} {c : LockV}, (∀ e ∈ L, 0 ≤ e.2.1.2) → lookL L p = some c → 0 ≤ c.1.2 ∧ c.1.2 ≤ sumA L
  | [], p, c, _, h => by simp [lookL] at h
  | e :: L, p, c, h0, h => by
    have hn : ∀ M : LocksL, (∀ e ∈ M, 0 ≤ e.2.1.2) → 0 ≤ sumA M := by
      intro M
      induction M with
      | nil => intro _; simp [sumA]
      | cons x M ih =>
        intro hm
        have h1 := ih (fun e he => hm e (List.mem_cons_of_mem _ he))
        have h2 := hm x (List.mem_cons_self ..)
        unfold sumA at h1 ⊢
        rw [List.map_cons, List.sum_cons]; omega
    have h1 := hn L (fun e he => h0 e (List.mem_cons_of_mem _ he))
    have h2 := h0 e (List.mem_cons_self ..)
    unfold lookL at h
    by_cases he : (e.1 == p) = true
    · rw [List.find?_cons_of_pos (by exact he)] at h
      have : e.2 = c := by simpa using h
      rw [← this]
      unfold sumA at h1 ⊢
      rw [List.map_cons, List.sum_cons]; omega
    · rw [List.find?_cons_of_neg (by simpa using he)] at h
      have h3 := sumA_ge (L := L) (p := p) (c := c) (fun e he => h0 e (List.mem_cons_of_mem _ he)) h
      unfold sumA at h3 ⊢
      rw [List.map_cons, List.sum_cons]; omega
/-- Let go of, one by one. -/
def freeAll (L : LocksL) (ks : List PtS) : LocksL := ks.foldl (fun L p => dropL L p.1) L
theorem free_fold : ∀ (ks : List PtS) (L : LocksL), (ks.map (·.1)).Nodup → (L.map (·.1)).Nodup → freeAll L ks = L.filter fun e => !decide (e.1 ∈ ks.map (·.1))
  | [], L, _, _ => (List.filter_eq_self.2 (by simp)).symm
  | k :: ks, L, h1, h2 => by
    rw [List.map_cons, List.nodup_cons] at h1
    have hd := dropL_filter L k.1 h2
    have h3 : ((dropL L k.1).map (·.1)).Nodup := by rw [hd]; exact h2.sublist (List.filter_sublist.map _)
    have h4 := free_fold ks (dropL L k.1) h1.2 h3
    unfold freeAll at h4 ⊢
    rw [List.foldl_cons, h4, hd, List.filter_filter]
    refine List.filter_congr fun x hx => ?_
    by_cases hxk : x.1 = k.1
    · simp [hxk]
    · have hm : (x.1 ∈ (k :: ks).map (·.1)) ↔ x.1 ∈ ks.map (·.1) := by rw [List.map_cons, List.mem_cons]; exact ⟨fun h => h.resolve_left hxk, .inr⟩
      rw [show decide (x.1 ∈ (k :: ks).map (·.1)) = decide (x.1 ∈ ks.map (·.1)) from decide_eq_decide.2 hm]
      simp [hxk]
theorem free_end {L : LocksL} {ks : List PtS} {id : List UInt8} (hp : (ks.map (·.1)).Perm ((L.filter fun e => decide (e.2.2 = id)).map (·.1))) (hd : (L.map (·.1)).Nodup) :
    freeAll L ks = L.filter fun e => !decide (e.2.2 = id) := by
  have hnd : (ks.map (·.1)).Nodup := hp.nodup_iff.2 (hd.sublist (List.filter_sublist.map _))
  rw [free_fold ks L hnd hd]
  refine List.filter_congr fun x hx => ?_
  congr 1
  refine decide_eq_decide.2 ?_
  rw [hp.mem_iff, List.mem_map]
  constructor
  · rintro ⟨y, hy, hyx⟩
    obtain ⟨hy1, hy2⟩ := List.mem_filter.1 hy
    have a1 := lookL_mem hy1 hd
    have a2 := lookL_mem hx hd
    rw [hyx, a2] at a1
    have a3 : x.2 = y.2 := by injection a1
    rw [a3]; simpa using hy2
  · intro h
    exact ⟨x, List.mem_filter.2 ⟨hx, by simpa using h⟩, rfl⟩
theorem look_free {L : LocksL} {ks : List PtS} {i : Nat} {x : PtS} (hk : ks[i]? = some x) (hnd : (ks.map (·.1)).Nodup) (hin : ∀ k ∈ ks, k.1 ∈ L.map (·.1)) (hd : (L.map (·.1)).Nodup) : (lookL (freeAll L (ks.take i)) x.1).isSome = true := by
  have hx : x ∈ ks := List.mem_of_getElem? hk
  obtain ⟨e, he, hex⟩ := List.mem_map.1 (hin x hx)
  have hnt : ((ks.take i).map (·.1)).Nodup := hnd.sublist ((List.take_sublist i ks).map _)
  have hno : x.1 ∉ (ks.take i).map (·.1) := by
    intro hm
    obtain ⟨y, hy, hyx⟩ := List.mem_map.1 hm
    obtain ⟨j, hj, hje⟩ := List.getElem_of_mem hy
    rw [List.length_take] at hj
    rw [List.getElem_take] at hje
    have hil := (List.getElem?_eq_some_iff.1 hk).1
    have h1 : (ks.map (·.1))[j]'(by rw [List.length_map]; omega) = (ks.map (·.1))[i]'(by rw [List.length_map]; omega) := by
      rw [List.getElem_map, List.getElem_map, hje, hyx, (List.getElem?_eq_some_iff.1 hk).2]
    have := (List.getElem_inj hnd).1 h1
    omega
  rw [free_fold _ L hnt hd]
  have hm : e ∈ L.filter fun e => !decide (e.1 ∈ (ks.take i).map (·.1)) := List.mem_filter.2 ⟨he, by rw [hex]; simpa using hno⟩
  have := lookL_mem hm (hd.sublist (List.filter_sublist.map _))
  rw [hex] at this
  rw [this]; rfl
theorem free_snoc (L : LocksL) (ks : List PtS) {i : Nat} {x : PtS} (hk : ks[i]? = some x) : freeAll L (ks.take (i + 1)) = dropL (freeAll L (ks.take i)) x.1 := by
  unfold freeAll
  rw [List.take_add_one, hk]
  simp
/-- What stays. -/
def LE (is : List UInt8) (o m : Nat) : LocksL := (LO is m).filter fun e => !decide (e.2.2 = idx o)
theorem LE_look {is : List UInt8} {o m j : Nat} (ho : o < 256) (hm : m ≤ 60) (hj : j < m) : lookL (LE is o m) (pk j 0) = if fI is j = o then none else some (cn ((j : Int) + 1), idx (fI is j)) := by
  by_cases h : fI is j = o
  · rw [if_pos h]
    refine lookL_no fun e he hk => ?_
    obtain ⟨h1, h2⟩ := List.mem_filter.1 he
    obtain ⟨i, hi, rfl⟩ := LO_mem h1
    have := (pk_inj (by omega) (by omega) hk).1
    subst this
    simp [h] at h2
  · rw [if_neg h]
    have hmem : (pk j 0, (cn ((j : Int) + 1), idx (fI is j))) ∈ LE is o m := List.mem_filter.2 ⟨LO_in hj, by simpa using fun e => h (idx_inj (fI_lt is j) ho e)⟩
    exact lookL_mem hmem ((LO_nd (by omega)).sublist (List.filter_sublist.map _))
theorem LE_held {is : List UInt8} {o m v : Nat} (ho : o < 256) (hv : v < 256) : ((LE is o m).filter fun e => decide (e.2.2 = idx v)).length = if v = o then 0 else cntO is m v := by
  unfold LE
  rw [List.filter_filter]
  by_cases h : v = o
  · rw [if_pos h, List.length_eq_zero_iff, List.filter_eq_nil_iff]
    intro e he
    rw [h]; simp
  · rw [if_neg h, ← held_LO is v hv m]
    congr 1
    refine List.filter_congr fun e he => ?_
    obtain ⟨i, hi, rfl⟩ := LO_mem he
    by_cases h1 : idx (fI is i) = idx v
    · have h2 : ¬ idx v = idx o := fun e => h (idx_inj hv ho e)
      simp [h1, h2]
    · simp [h1]
theorem LE_succ (is : List UInt8) (o k : Nat) (ho : o < 256) : sumA (LE is o (k + 1)) = sumA (LE is o k) + if fI is k = o then 0 else (k : Int) + 1 := by
  unfold LE
  rw [LO_succ, List.filter_append, sumA_append]
  congr 1
  by_cases h : fI is k = o
  · rw [if_pos h, List.filter_cons_of_neg (by simp [h])]; simp [sumA]
  · have h1 : ¬ idx (fI is k) = idx o := fun e => h (idx_inj (fI_lt is k) ho e)
    rw [if_neg h, List.filter_cons_of_pos (by simp [h1]), List.filter_nil, sumA_one]; rfl
theorem LE_bd (is : List UInt8) (o : Nat) (ho : o < 256) : ∀ k : Nat, k ≤ 60 → 0 ≤ sumA (LE is o k) ∧ sumA (LE is o k) ≤ 61 * k
  | 0, _ => by simp [LE, LO, sumA]
  | k + 1, h => by
    have h1 := LE_bd is o ho k (by omega)
    rw [LE_succ is o k ho]
    split <;> omega
theorem LE_len (is : List UInt8) (o : Nat) (ho : o < 256) : ∀ m : Nat, (LE is o m).length + cntO is m o = m
  | 0 => by simp [LE, LO, cntO]
  | k + 1 => by
    have h0 := LE_len is o ho k
    rw [cnt_succ]
    unfold LE at h0 ⊢
    rw [LO_succ, List.filter_append, List.length_append]
    by_cases h : fI is k = o
    · rw [if_pos h, List.filter_cons_of_neg (by simp [h])]; simp; omega
    · have h1 : ¬ idx (fI is k) = idx o := fun e => h (idx_inj (fI_lt is k) ho e)
      rw [if_neg h, List.filter_cons_of_pos (by simp [h1])]; simp; omega
theorem LK_pos {L : LocksL} (h : LKOK L) : ∀ e ∈ L, 0 ≤ e.2.1.2 := fun e he => (h.1 e he).2.1.2.1
end Go.Proofs.Ytolbbhbfbpiljaa

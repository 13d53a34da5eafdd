/- The contracts of coins.Copy and locks.Copy. -/
import Derived.Test.YtnnjjbkdjkjnpaaGreatDoorSpendNoneT17
import Derived.Test.YtnnjjbkdjkjnpaaGreatDoorSpendNoneT21
import Derived.Test.YtnnjjbkdjkjnpaaGreatDoorSpendNoneT6
import Derived.Test.YtnnjjbkdjkjnpaaGreatDoorSpendNoneT7
import Derived.Test.YtnnjjbkdjkjnpaaGreatDoorSpendNoneT12
import Derived.Test.YtnnjjbkdjkjnpaaGreatDoorSpendNoneT1
import Derived.Lib.SliceRun
import Derived.Lib.AppendZerosOnto
import Derived.Laws.CopyOwn
import Derived.Deep.CutBlock
set_option linter.unusedSimpArgs false
/- The contracts of coins.Copy and locks.Copy. -/
namespace Go.Proofs.YtnnjjbkdjkjnpaaGreatDoor
open Go.RowKit
set_option linter.unusedVariables false
section
variable {P : Program} {C : Nat → World → Prop} {M : List Nat} {R : List (Nat × Nat)} {ops : Array Oper} {Q : Act → Prop} {rest : List Oper} {i : Nat} {a : Act} {o : Oper}
end
end Go.Proofs.YtnnjjbkdjkjnpaaGreatDoor
/- Words on rows of elements of more cells than one: copied into, appended to in place, cleared behind. No program in sight. -/
namespace Go.Proofs.YtnnjjbkdjkjnpaaGreatDoor
open Go.RowKit
set_option linter.unusedVariables false
set_option linter.unusedSimpArgs false
section
variable {P : Program} {w : World} {base g n c i : Nat} {A : Option Addr} {e dT sT ty : TypeId} {sz bytes : Nat} {xs : List Value}
theorem own_take (h : w.ownsRow base e sz (.slice A n c) n xs) (hi : i ≤ n) : w.ownsRow base e sz (.slice A i c) i (xs.take (i * sz)) := by
  have hm : i * sz ≤ n * sz := Nat.mul_le_mul_right _ hi
  refine ⟨by rw [List.length_take, h.1]; omega, ?_⟩
  rcases h.2 with ⟨hv, h0⟩ | ⟨g, cap, cur, hv, hbg, hh, hcap, hm2, hs, ht⟩
  · injection hv with h1 h2 h3
    subst h1 h3
    obtain rfl : i = 0 := by omega
    exact .inl ⟨rfl, rfl⟩
  · injection hv with h1 h2 h3
    subst h1 h3
    refine .inr ⟨g, _, cur, rfl, hbg, hh, by omega, hm2, hs, ?_⟩
    rw [← ht, List.take_take, Nat.min_eq_left hm]
/-- 'clear(s[n:n+m])' behind a row's end. -/
theorem run_clear_own (HE : ElemT P dT e sz bytes) {zs : List Value} (hzz : (P.info? e).map (·.zero) = some (some (.agg zs.toArray))) (hz1 : ∀ v ∈ zs, v.oneCell' = true) (h : w.ownsRow base e sz (.slice (some ⟨g, 0, none⟩) n c) n xs) {m c2 : Nat} (hr : n + m ≤ c) :
    ∃ w', (Builtin.clear_ #[dT] ty #[.slice (some ⟨g, n * sz, none⟩) m c2]).run P w = .ok (.tuple #[]) w' ∧ w'.ownsRow base e sz (.slice (some ⟨g, 0, none⟩) n c) n xs ∧ w.grownBy w' (some g) ∧ w'.heap.size = w.heap.size := by
  obtain ⟨i, z, hi, hz, hsz, hby, hzs, h0⟩ := HE.hi
  have hza : z = .agg zs.toArray := by
    rw [hi] at hzz
    simp only [Option.map_some, Option.some.injEq, hz] at hzz
    exact hzz
  rcases h.2 with ⟨hv, _⟩ | ⟨g', cap, cur, hv, hbg, hh, hcap, hm2, hs, ht⟩
  · cases hv
  · injection hv with hv1 hv2 hv3
    injection hv1 with hv1
    injection hv1 with hv1
    subst hv1 hv3
    cases m with
    | zero => exact ⟨w, by simp [Builtin.clear_, run_underlying HE.ht], h, World.grownBy.refl w _, rfl⟩
    | succ m =>
      have hmul : (n + (m + 1)) * sz ≤ c * sz := Nat.mul_le_mul_right _ hr
      rw [Nat.add_mul] at hmul
      obtain ⟨ys, hys⟩ : ∃ ys, ys = (Builtin.zeroCells zs.toArray (m + 1)).toList := ⟨_, rfl⟩
      have hzl : zs.length = sz := by rw [hza] at hzs; simpa [Value.cells] using hzs
      have hyl : ys.length = (m + 1) * sz := by rw [hys]; simp [Builtin.zeroCells, hzl]
      have hy1 : ∀ v ∈ ys, v.oneCell' = true := by
        intro v hv
        rw [hys] at hv
        simp only [Builtin.zeroCells, Array.toList_map, Array.toList_range, List.mem_map, List.mem_range, List.size_toArray] at hv
        obtain ⟨q, hq, rfl⟩ := hv
        have hlt : q % zs.length < zs.length := Nat.mod_lt _ (by omega)
        have : zs.toArray[q % zs.length]! = zs[q % zs.length] := by simp [hlt]
        rw [this]
        exact hz1 _ (List.getElem_mem hlt)
      have hst := run_storeCells_at P g (n * sz) e ys 0 cur w hh (by simp; omega) hy1
      simp only [Nat.add_zero] at hst
      refine ⟨w.setRow g (cur.toList.take (n * sz) ++ ys ++ cur.toList.drop (n * sz + ys.length)).toArray, ?_, ⟨h.1, .inr ⟨g, c, _, rfl, hbg, setRow_heap w g cur _ e _ hh, hcap, hm2, ?_, ?_⟩⟩, ⟨rfl, rfl, rfl, by simp, fun k _ hk => setRow_other w g k _ (fun e => hk (by simp [e]))⟩, by simp⟩
      · have hzv : ∀ w, (zeroValue e).run P w = .ok (.agg zs.toArray) w := fun w => by simp [zeroValue, typeInfo, hi, hz, hza]
        simp [Builtin.clear_, run_underlying HE.ht, hzv, Value.cells, ← hys, hst]
      · simp only [List.size_toArray, List.length_append, List.length_take, List.length_drop, Array.length_toList]
        omega
      · rw [List.toList_toArray, List.append_assoc, List.take_append_of_le_length (by rw [List.length_take, Array.length_toList]; omega), List.take_take, Nat.min_self]
        exact ht
end
section
variable {P : Program} {ops : Array Oper} {rest : List Oper} {o : Oper} {a : Act} {w : World} {Q : Exit → Act → World → Prop}
end
theorem wpl_clear_run {P : Program} {w : World} {ops : Array Oper} {rest : List Oper} {o : Oper} {a : Act} {Q : Exit → Act → World → Prop} (hgd : o.guard = none) {d : Operand} {t : TypeId}
    (ho : o.op = .call { callee := .builtin .clear, args := #[d], argTypes := #[t] }) {v : Value} (hd : a.eval d = v) {v' : Value} {w' : World}
    (hr : (Builtin.clear_ #[t] o.type #[v]).run P w = .ok v' w') (h : wpList P ops Q rest (a.put o.dst v') w') : wpList P ops Q (o :: rest) a w := by
  refine wpList_plain hgd fun K hK => ?_
  unfold Oper.wp execOp
  simp only [ho, resolve, invoke, builtin, Sem.run_bind, Sem.run_pure, Result.andThen_ok, List.map_toArray, List.map_cons, List.map_nil, hd, hr]
  exact hK _ _ h
theorem own_of_block {w w' : World} {base n c : Nat} {A : Option Addr} {e : TypeId} {sz : Nat} {xs : List Value} (h : w.ownsRow base e sz (.slice A n c) n xs) (k : ∀ b, A.map Addr.block = some b → w'.heap[b]? = w.heap[b]?) : w'.ownsRow base e sz (.slice A n c) n xs := by
  refine ⟨h.1, ?_⟩
  rcases h.2 with h2 | ⟨g, cap, cur, hv, hg, hh, r⟩
  · exact .inl h2
  · refine .inr ⟨g, cap, cur, hv, hg, ?_, r⟩
    injection hv with hA
    rw [k g (by rw [hA]; rfl)]; exact hh
end Go.Proofs.YtnnjjbkdjkjnpaaGreatDoor
/- slices.IndexFunc and slices.DeleteFunc of outputs at the function that locks.Of hands on. -/
namespace Go.Proofs.YtnnjjbkdjkjnpaaGreatDoor
open Go.RowKit Go.Sort
set_option linter.unusedVariables false
theorem fm_at3 {α : Type} (f : α → List Value) (sz : Nat) : ∀ (l : List α) (k j : Nat) (x : α) (u : Value), (∀ y ∈ l, (f y).length = sz) → l[k]? = some x → (f x)[j]? = some u → (l.flatMap f)[k * sz + j]? = some u
  | [], k, j, x, u, _, hx, _ => by simp at hx
  | y :: l, 0, j, x, u, hl, hx, hu => by
    simp only [List.getElem?_cons_zero, Option.some.injEq] at hx
    subst hx
    rw [List.flatMap_cons, Nat.zero_mul, Nat.zero_add, List.getElem?_append_left (List.getElem?_eq_some_iff.1 hu).1]; exact hu
  | y :: l, k + 1, j, x, u, hl, hx, hu => by
    rw [List.getElem?_cons_succ] at hx
    have e1 : (f y).length = sz := hl y (List.mem_cons_self ..)
    rw [List.flatMap_cons, List.getElem?_append_right (by rw [e1, Nat.succ_mul]; omega), e1, show (k + 1) * sz + j - sz = k * sz + j by rw [Nat.succ_mul]; omega]
    exact fm_at3 f sz l k j x u (fun z hz => hl z (List.mem_cons_of_mem _ hz)) hx hu
theorem pf_len (l : List PtS) : (l.flatMap encPt).length = l.length * 33 := by
  induction l with
  | nil => rfl
  | cons x l ih => rw [List.flatMap_cons, List.length_append, ih, encPt_len, List.length_cons]; omega
theorem pf_take : ∀ (l : List PtS) (k : Nat), (l.flatMap encPt).take (k * 33) = (l.take k).flatMap encPt
  | [], k => by simp
  | x :: l, 0 => by simp
  | x :: l, k + 1 => by
    have h1 := encPt_len x
    rw [List.flatMap_cons, List.take_succ_cons, List.flatMap_cons, List.take_append, List.take_of_length_le (by omega), h1, show (k + 1) * 33 - 33 = k * 33 by omega, pf_take l k]
theorem pf_drop : ∀ (l : List PtS) (k : Nat), (l.flatMap encPt).drop (k * 33) = (l.drop k).flatMap encPt
  | [], k => by simp
  | x :: l, 0 => by simp
  | x :: l, k + 1 => by
    have h1 := encPt_len x
    rw [List.flatMap_cons, List.drop_succ_cons, List.drop_append, List.drop_of_length_le (by omega), h1, show (k + 1) * 33 - 33 = k * 33 by omega, pf_drop l k]; rfl
theorem pf_set {l : List PtS} {i : Nat} (x : PtS) (h : i < l.length) : splice (l.flatMap encPt) (i * 33) (encPt x) = (l.set i x).flatMap encPt := by
  unfold splice
  rw [pf_take, encPt_len, show i * 33 + 33 = (i + 1) * 33 by omega, pf_drop, List.set_eq_take_append_cons_drop, if_pos h, List.flatMap_append, List.flatMap_cons]
def OwnP (w : World) (base : Nat) (A : Option Addr) (n c : Nat) (ys : List PtS) : Prop := w.ownsRow base 69 33 (.slice A n c) n (ys.flatMap encPt)
theorem OwnP.len {w : World} {base n c : Nat} {A : Option Addr} {ys : List PtS} (h : OwnP w base A n c ys) : ys.length = n := by have := h.1; rw [pf_len] at this; omega
theorem OwnP.call {w w' : World} {base n c : Nat} {A : Option Addr} {ys : List PtS} (h : OwnP w base A n c ys) (k : Below w.heap.size w w') : OwnP w' base A n c ys := own_below h k
theorem OwnP.form {w : World} {base n c : Nat} {A : Option Addr} {ys : List PtS} (h : OwnP w base A n c ys) (hn : 0 < n) : ∃ g cur, A = some ⟨g, 0, none⟩ ∧ base ≤ g ∧ g < w.heap.size ∧ n ≤ c ∧ c ≤ maxLen ∧ Blk w g 69 cur ∧ cur.length = c * 33 ∧ cur.take (n * 33) = ys.flatMap encPt := by
  rcases h.2 with ⟨hv, h0⟩ | ⟨g, cap, cur, hv, hbg, hh, hcap, hm, hs, ht⟩
  · omega
  · injection hv with hA _ hc
    subst hc
    exact ⟨g, cur.toList, hA, hbg, (Array.getElem?_eq_some_iff.1 hh).1, hcap, hm, by unfold Blk; rw [Array.toArray_toList]; exact hh, by rw [Array.length_toList]; exact hs, ht⟩
theorem OwnP.at_ {w : World} {base g n c : Nat} {ys : List PtS} (h : OwnP w base (some ⟨g, 0, none⟩) n c ys) {k : Nat} {x : PtS} (hk : ys[k]? = some x) : ∀ j u, (encPt x)[j]? = some u → w.cell? ⟨g, k * 33 + j, none⟩ = some u := by
  intro j u hu
  have hkl := (List.getElem?_eq_some_iff.1 hk).1
  have hl := h.len
  obtain ⟨g', cur, hA, _, _, _, _, hb, _, ht⟩ := h.form (by omega)
  injection hA with hA; injection hA with hA; subst hA
  have hc := fm_at3 encPt 33 ys k j x u (fun y _ => encPt_len y) hk hu
  rw [← ht, List.getElem?_take] at hc
  split at hc
  · exact hb.at_ hc
  · cases hc
theorem OwnP.set_ {w w' : World} {base g n c i : Nat} {ys : List PtS} {cur : List Value} (h : OwnP w base (some ⟨g, 0, none⟩) n c ys) (hi : i < n) (hb : Blk w g 69 cur) (x : PtS) (hb' : Blk w' g 69 (splice cur (i * 33) (encPt x))) : OwnP w' base (some ⟨g, 0, none⟩) n c (ys.set i x) := by
  have hl := h.len
  obtain ⟨g', cur', hA, h1, h2, h3, h4, hbb, h5, ht⟩ := h.form (by omega)
  injection hA with hA; injection hA with hA; subst hA
  have hcc : cur' = cur := by
    unfold Blk at hb hbb
    rw [hb] at hbb
    injection hbb with hbb; injection hbb with hbb
    have := congrArg Array.toList hbb
    simpa using this.symm
  subst hcc
  have hxl := encPt_len x
  have hi33 : i * 33 + 33 ≤ n * 33 := by omega
  have hn33 : n * 33 ≤ c * 33 := by omega
  refine ⟨by rw [pf_len, List.length_set, hl], .inr ⟨g, c, _, rfl, h1, hb', h3, h4, by rw [List.size_toArray, length_splice _ _ _ (by omega), h5], ?_⟩⟩
  rw [List.toList_toArray, ← pf_set x (by omega), ← ht]
  apply List.ext_getElem?
  intro k
  rw [List.getElem?_take, splice_get _ _ _ _ (by omega), splice_get _ _ _ _ (by rw [List.length_take]; omega), List.getElem?_take]
  split
  · rfl
  · split
    · omega
    · rfl
theorem blk_setC {g : Nat} {t : TypeId} : ∀ (vs : List Value) (o : Nat) (w : World) (cs : List Value), Blk w g t cs → o + vs.length ≤ cs.length → Blk (w.setCells g o vs) g t (splice cs o vs)
  | [], o, w, cs, h, _ => by simpa [splice, World.setCells] using h
  | v :: r, o, w, cs, h, hl => by
    simp only [List.length_cons] at hl
    have h1 := blk_setC r (o + 1) _ _ (h.set_ o v) (by rw [List.length_set]; omega)
    have e : splice (cs.set o v) (o + 1) r = splice cs o (v :: r) := by
      apply List.ext_getElem?
      intro k
      rw [splice_get _ _ _ _ (by rw [List.length_set]; omega), splice_get _ _ _ _ (by simp only [List.length_cons]; omega)]
      simp only [List.length_cons]
      by_cases h1 : k = o
      · subst h1
        rw [if_neg (by omega), if_pos (by omega), List.getElem?_set, if_pos rfl, if_pos (by omega), Nat.sub_self]; rfl
      · by_cases h2 : o + 1 ≤ k ∧ k < o + 1 + r.length
        · rw [if_pos h2, if_pos (by omega), show k - o = (k - (o + 1)) + 1 by omega, List.getElem?_cons_succ]
        · rw [if_neg h2, if_neg (by omega), List.getElem?_set, if_neg (by omega)]
    rw [e] at h1
    exact h1
theorem grown_tr {a b c : World} {r : Option Nat} (h : a.grownBy b r) (k : b.grownBy c r) : a.grownBy c r :=
  ⟨k.os.trans h.os, k.tape.trans h.tape, k.output.trans h.output, Nat.le_trans h.size k.size, fun i hi hn => (k.block i (Nat.lt_of_lt_of_le hi h.size) hn).trans (h.block i hi hn)⟩
theorem grown_setC (g : Nat) : ∀ (vs : List Value) (o : Nat) (w : World), w.grownBy (w.setCells g o vs) (some g) ∧ (w.setCells g o vs).heap.size = w.heap.size
  | [], o, w => ⟨⟨rfl, rfl, rfl, Nat.le_refl _, fun _ _ _ => rfl⟩, rfl⟩
  | v :: r, o, w => by
    obtain ⟨h1, h2⟩ := grown_setC g r (o + 1) (w.setCell ⟨g, o, none⟩ v)
    exact ⟨grown_tr (grown_set w g o v) h1, h2.trans (by simp)⟩
section
variable {P : Program} {ops : Array Oper} {rest : List Oper} {o : Oper} {a : Act} {w : World} {Q : Exit → Act → World → Prop}
theorem wpl_storep (hgd : o.guard = none) {T : TypeId} {x y : Operand} (ho : o.op = .store T x y) {n : Nat} (hT : RowT P T n) {g off : Nat} {t : TypeId} {old cs : List Value} (hb : Blk w g t old) (hx : a.eval x = .pointer (some ⟨g, off, none⟩)) (hy : a.eval y = .agg cs.toArray)
    (hn : cs.length = n) (hle : off + n ≤ old.length) (h1 : ∀ u ∈ cs, u.oneCell' = true)
    (h : ∀ w', Blk w' g t (splice old off cs) → w.grownBy w' (some g) → w'.heap.size = w.heap.size → wpList P ops Q rest (a.put o.dst undef) w') : wpList P ops Q (o :: rest) a w := by
  obtain ⟨d, hu, hd, hi⟩ := hT
  refine wpList_store_mid hgd T x y ho g off cs.toArray hx hy (fun j hj => ?_) (by rw [hi]; simp [hn]) (all_oneCell_toArray h1) ?_
  · simp only [List.size_toArray] at hj
    exact ⟨by rw [hb.at_ (List.getElem?_eq_getElem (show off + j < old.length by omega))]; rfl, hb.frozen _⟩
  · obtain ⟨h2, h3⟩ := grown_setC g cs off w
    exact h _ (blk_setC cs off w old hb (by omega)) h2 h3
end
/-- The first place where something holds. -/
def firstAt (d : PtS → Bool) (l : List PtS) (r : Int) : Prop := (r = -1 ∧ ∀ x ∈ l, d x = false) ∨ ∃ i x, r = ((i : Nat) : Int) ∧ l[i]? = some x ∧ d x = true ∧ ∀ y ∈ l.take i, d y = false
/-- The function value that Of makes. -/
def ofV (Bl Bi : Nat) : Value := .func (.func 58) #[] #[.pointer (some ⟨Bl, 0, none⟩), .pointer (some ⟨Bi, 0, none⟩)]
set_option maxRecDepth 100000 in
set_option maxHeartbeats 2000000 in
theorem ix_any (Z : Nat) (w0 : World) (hZ : Z ≤ w0.heap.size) (Bl Bi : Nat) (dl : PtS → Bool) (HD : ∀ w', Below Z w0 w' → ∀ x : PtS, Calls Tryz.prog 58 #[ptA x.1, .pointer (some ⟨Bl, 0, none⟩), .pointer (some ⟨Bi, 0, none⟩)] w' fun e w'' => e = .returned (.bool (dl x)) ∧ Below w'.heap.size w' w'')
    {A : Option Addr} {n c : Nat} {ks : List PtS} (w : World) (hB : Below Z w0 w) (h : OwnP w Z A n c ks) (hn : n ≤ 1000000) :
    Calls Tryz.prog 90 #[.slice A n c, ofV Bl Bi] w fun e w' => ∃ r, e = .returned (.int .i64 r) ∧ firstAt dl ks r ∧ Below w.heap.size w w' := by
  have HO := Lib.hid h; have HL := Lib.hid h.len; have HB0 := Lib.hid hB; have HDD := Lib.hid HD; have HZZ := Lib.hid (Nat.le_trans hZ hB.size)
  unfold ofV
  clear h HD hB hZ
  go_enter Tryz.func90, Tryz.ntmps90
  go_wp2_with fail
  go_loopw [8] (fun iv wr => ∃ k : Nat, k ≤ n ∧ iv = .int .i64 k ∧ Hid ((∀ y ∈ ks.take k, dl y = false) ∧ Below w.heap.size w wr)) (fun iv _ => n - (intOf iv).toNat)
  case atStart => exact ⟨0, by omega, rfl, Lib.hid ⟨by simp, Below.refl _ _⟩⟩
  case round =>
    obtain ⟨k, hk, rfl, hI⟩ := hrel
    have HT := Lib.hid hI.out.1; have HB := Lib.hid hI.out.2
    clear hI
    by_cases hlt : k < n
    · have hkk : ks[k]? = some (ks[k]'(by have := HL.out; omega)) := List.getElem?_eq_getElem _
      obtain ⟨x, hx⟩ : ∃ x, x = ks[k]'(by have := HL.out; omega) := ⟨_, rfl⟩
      rw [← hx] at hkk
      have HKK := Lib.hid hkk
      have HOR := Lib.hid (HO.out.call HB.out)
      obtain ⟨g, cur, rfl, -⟩ := HO.out.form (by omega)
      have HCE := Lib.hid (HOR.out.at_ hkk)
      have HXL := Lib.hid (encPt_len x)
      have HCL := Lib.hid (HDD.out wr (HB0.out.trans (HB.out.mono HZZ.out)) x)
      obtain ⟨r, hr⟩ : ∃ r, r = dl x := ⟨_, rfl⟩
      rw [← hr] at HCL
      have HRX := Lib.hid hr
      clear hkk hx hr
      rw [show ptA x.1 = .agg (encPt x).toArray from rfl] at HCL
      obtain ⟨xs, hxs⟩ : ∃ q, q = encPt x := ⟨_, rfl⟩
      rw [← hxs] at HCE HXL HCL
      clear hxs
      go_wp2_with (first | (with_reducible refine wpl_loadm (o := ⟨some 15, _, _, _, _, _⟩) rfl rfl row_point HCE.out rfl HXL.out ?_))
      refine HCL.out.mono ?_
      rintro e w2 ⟨rfl, hb2⟩
      have HB2 := Lib.hid (HB.out.trans (hb2.mono HB.out.size))
      clear hb2
      cases r with
      | true =>
        go_wp2_with fail
        go_ret
        exact ⟨k, rfl, .inr ⟨k, x, rfl, HKK.out, HRX.out.symm, HT.out⟩, HB2.out⟩
      | false =>
        have HT2 := Lib.hid (show ∀ y ∈ ks.take (k + 1), dl y = false from fun y hy => by
          rw [List.take_add_one, HKK.out] at hy
          rcases List.mem_append.1 hy with hy | hy
          · exact HT.out y hy
          · have : y = x := by simpa using hy
            rw [this]; exact HRX.out.symm)
        go_wp2_with fail
        go_roundw
        case rel => exact ⟨k + 1, by omega, by go_num, Lib.hid ⟨HT2.out, HB2.out⟩⟩
        case measure => simp [intOf]; omega
    · obtain rfl : k = n := by omega
      go_wp2_with fail
      go_ret
      refine ⟨-1, rfl, .inl ⟨rfl, ?_⟩, HB.out⟩
      have := HT.out
      rw [List.take_of_length_le (by have := HL.out; omega)] at this
      exact this
end Go.Proofs.YtnnjjbkdjkjnpaaGreatDoor
/- The document's coins: a row of outputs with coins; its sum. -/
namespace Go.Proofs.YtnnjjbkdjkjnpaaGreatDoor
open Go.RowKit
set_option linter.unusedVariables false
def AtOKC (e : PtK × CoinV) : Prop := PtOK e.1 ∧ CoinOK e.2
def amtC (l : CoinsL) : Int := (l.map fun e => e.2.2).sum
theorem amtC_nn : ∀ {l : CoinsL}, (∀ e ∈ l, AtOKC e) → 0 ≤ amtC l
  | [], _ => by simp [amtC]
  | e :: l, h => by
    have h1 := amtC_nn (l := l) (fun x hx => h x (List.mem_cons_of_mem _ hx))
    have h2 := (h e (List.mem_cons_self ..)).2.2.1
    unfold amtC at h1 ⊢
    rw [List.map_cons, List.sum_cons]; omega
end Go.Proofs.YtnnjjbkdjkjnpaaGreatDoor
/- The document's coins: Get. -/
namespace Go.Proofs.YtnnjjbkdjkjnpaaGreatDoor
open Go.RowKit
set_option linter.unusedVariables false
theorem lookC_first {l : CoinsL} {p : PtK} {k : Nat} {e : PtK × CoinV} (he : l[k]? = some e) (hp : e.1 = p) (hn : ∀ x ∈ l.take k, x.1 ≠ p) : lookC l p = some e.2 := by
  have h1 : l = l.take k ++ e :: l.drop (k + 1) := by
    have hk := (List.getElem?_eq_some_iff.1 he).1
    have h2 := List.take_append_drop k l
    rw [List.drop_eq_getElem_cons hk, (List.getElem?_eq_some_iff.1 he).2] at h2
    exact h2.symm
  unfold lookC
  rw [h1, List.find?_append, List.find?_eq_none.2 (fun x hx => by simpa using hn x hx), List.find?_cons_of_pos (by simpa using hp)]
  rfl
theorem lookC_not {l : CoinsL} {p : PtK} (hn : ∀ x ∈ l, x.1 ≠ p) : lookC l p = none := by
  unfold lookC
  rw [List.find?_eq_none.2 (fun e he => by simpa using hn e he)]; rfl
end Go.Proofs.YtnnjjbkdjkjnpaaGreatDoor
/- The document's coins in plain words: the list in its order, and what the program's map has to do with it. -/
namespace Go.Proofs.YtnnjjbkdjkjnpaaGreatDoor
open Go.RowKit Go.Maps Go.Sort Go.Shelf
set_option linter.unusedVariables false
def insC (p : PtK) (c : CoinV) : CoinsL → CoinsL
  | [] => [(p, c)]
  | e :: r => if cmpP p e.1 < 0 then (p, c) :: e :: r else e :: insC p c r
def rputC (X : CoinsL) (p : PtK) (c : CoinV) : CoinsL × Int :=
  if p.2 < 0 ∨ 16 ≤ p.2 ∨ c.2 = 0 ∨ 4611686018427387904 < c.2 then (X, 5) else if (lookC X p).isSome then (X, 24) else if 256 ≤ X.length then (X, 18) else if 4611686018427387904 - c.2 < amtC X then (X, 6) else (insC p c X, 0)
def cutC (X : CoinsL) (p : PtK) : CoinsL := X.filter (fun e => !(e.1 == p))
def SortC (X : CoinsL) : Prop := X.Pairwise (fun a b => cmpP a.1 b.1 < 0)
theorem insC_perm (p : PtK) (c : CoinV) : ∀ X : CoinsL, (insC p c X).Perm ((p, c) :: X)
  | [] => .refl _
  | e :: r => by
    unfold insC
    by_cases h : cmpP p e.1 < 0
    · rw [if_pos h]
    · rw [if_neg h]; exact ((insC_perm p c r).cons e).trans (List.Perm.swap _ _ _)
theorem insC_sort {p : PtK} {c : CoinV} : ∀ {X : CoinsL}, SortC X → (∀ e ∈ X, e.1 ≠ p) → SortC (insC p c X)
  | [], _, _ => by unfold SortC insC; simp
  | e :: r, h, hn => by
    unfold SortC at h
    rw [List.pairwise_cons] at h
    unfold insC
    by_cases hp : cmpP p e.1 < 0
    · rw [if_pos hp]
      unfold SortC
      rw [List.pairwise_cons, List.pairwise_cons]
      refine ⟨fun x hx => ?_, h⟩
      rcases List.mem_cons.1 hx with rfl | hx
      · exact hp
      · exact cmpP_lt_trans hp (h.1 x hx)
    · rw [if_neg hp]
      unfold SortC
      rw [List.pairwise_cons]
      refine ⟨fun x hx => ?_, insC_sort h.2 (fun y hy => hn y (List.mem_cons_of_mem _ hy))⟩
      rcases List.mem_cons.1 ((insC_perm p c r).mem_iff.1 hx) with rfl | hx
      · have h1 := cmpP_neg p e.1
        have h2 := cmpP_zero p e.1
        have h3 : cmpP p e.1 ≠ 0 := fun h0 => hn e (List.mem_cons_self ..) (h2.1 h0).symm
        show cmpP e.1 p < 0
        omega
      · exact h.1 x hx
theorem lookC_eq {L : CoinsL} (hd : (L.map (·.1)).Nodup) {e : PtK × CoinV} (he : e ∈ L) : lookC L e.1 = some e.2 := by
  obtain ⟨k, hk⟩ := List.mem_iff_getElem?.1 he
  refine lookC_first hk rfl fun x hx hxe => ?_
  obtain ⟨j, hj⟩ := List.mem_iff_getElem?.1 hx
  have hkk := (List.getElem?_eq_some_iff.1 hk).1
  have hjl := (List.getElem?_eq_some_iff.1 hj).1
  rw [List.length_take] at hjl
  have hj2 : L[j]? = some x := by rw [List.getElem?_take, if_pos (by omega)] at hj; exact hj
  have h1 : (L.map (·.1))[j]? = some e.1 := by rw [List.getElem?_map, hj2]; simp [hxe]
  have h2 : (L.map (·.1))[k]? = some e.1 := by rw [List.getElem?_map, hk]; rfl
  have := (List.getElem?_inj (by rw [List.length_map]; omega) hd).1 (h1.trans h2.symm)
  omega
theorem lookC_perm {X L : CoinsL} (h : X.Perm L) (hd : (L.map (·.1)).Nodup) (p : PtK) : lookC X p = lookC L p := by
  have hdX : (X.map (·.1)).Nodup := (h.map (·.1)).nodup_iff.2 hd
  by_cases hp : ∃ e ∈ L, e.1 = p
  · obtain ⟨e, he, rfl⟩ := hp
    rw [lookC_eq hd he, lookC_eq hdX (h.mem_iff.2 he)]
  · rw [lookC_not (fun x hx hxp => hp ⟨x, hx, hxp⟩), lookC_not (fun x hx hxp => hp ⟨x, h.mem_iff.1 hx, hxp⟩)]
theorem amtC_perm {X L : CoinsL} (h : X.Perm L) : amtC X = amtC L := by
  unfold amtC
  have := h.map (fun e : PtK × CoinV => e.2.2)
  exact this.foldr_eq' (f := (· + ·)) (fun x _ y _ z => by omega) 0
theorem amtC_app (X Y : CoinsL) : amtC (X ++ Y) = amtC X + amtC Y := by unfold amtC; rw [List.map_append, List.sum_append_int]
theorem amtC_one (e : PtK × CoinV) : amtC [e] = e.2.2 := by unfold amtC; simp
def IxOK (l : CoinsL) : Prop := ∀ e ∈ l, 0 ≤ e.1.2 ∧ e.1.2 ≤ 15
/-- The program's coins L (in the order of their putting, with their sum) are the document's X. -/
structure RelC (X L : CoinsL) (s : Int) : Prop where
  perm : X.Perm L
  sort : SortC X
  ok : LOK L
  sum : s = amtC L
  max : s ≤ 4611686018427387904
  len : L.length ≤ 256
  ix : IxOK L
theorem RelC.nil : RelC [] [] 0 := ⟨.refl _, List.Pairwise.nil, ⟨by simp, by simp⟩, rfl, by omega, by simp, by unfold IxOK; simp⟩
theorem RelC.okX {X L : CoinsL} {s : Int} (h : RelC X L s) : ∀ e ∈ X, AtOKC e := fun e he => h.ok.1 e (h.perm.mem_iff.1 he)
theorem RelC.nn {X L : CoinsL} {s : Int} (h : RelC X L s) : 0 ≤ s := by rw [h.sum]; exact amtC_nn (fun e he => h.ok.1 e he)
theorem RelC.amt {X L : CoinsL} {s : Int} (h : RelC X L s) : amtC X = s := by rw [h.sum]; exact amtC_perm h.perm
theorem RelC.look {X L : CoinsL} {s : Int} (h : RelC X L s) (p : PtK) : lookC X p = lookC L p := lookC_perm h.perm h.ok.2 p
theorem RelC.lenX {X L : CoinsL} {s : Int} (h : RelC X L s) : X.length = L.length := h.perm.length_eq
theorem RelC.put {X L : CoinsL} {s : Int} (h : RelC X L s) {p : PtK} {c : CoinV} (hp : PtOK p) (hc : CoinOK c) (h0 : putR L s p c = 0) : RelC (rputC X p c).1 (L ++ [(p, c)]) (addE s c.2).1 := by
  have h1 := h.nn; have h2 := h.max; have h3 := hc.2.1
  have hk := h.look p; have hlx := h.lenX; have ham := h.amt
  unfold putR at h0
  split at h0
  · omega
  · rename_i hr
    split at h0
    · omega
    · rename_i hl
      have hl2 : (lookC L p).isSome = false := by simpa using hl
      split at h0
      · omega
      · rename_i h256
        unfold addE at h0 ⊢
        split at h0
        · rename_i ha
          rw [if_pos ha]
          have hX : (rputC X p c).1 = insC p c X := by
            unfold rputC
            rw [if_neg hr, hk, if_neg hl, hlx, if_neg h256, ham, if_neg (by omega)]
          rw [hX]
          have hno := lookC_none hl2
          have hpl : (insC p c X).Perm (L ++ [(p, c)]) := (insC_perm p c X).trans ((h.perm.cons (p, c)).trans (List.perm_append_comm (l₁ := [(p, c)]) (l₂ := L)))
          refine ⟨hpl, insC_sort h.sort (fun e he => hno e (h.perm.mem_iff.1 he)), ⟨fun e he => ?_, ?_⟩, ?_, by omega, ?_, fun e he => ?_⟩
          · rcases List.mem_append.1 he with he | he
            · exact h.ok.1 e he
            · rw [List.mem_singleton] at he; subst he; exact ⟨hp, hc⟩
          · rw [List.map_append, List.nodup_append]
            refine ⟨h.ok.2, by simp, fun a ha b hb hab => ?_⟩
            obtain ⟨e, he, rfl⟩ := List.mem_map.1 ha
            simp at hb
            exact hno e he (hab.trans hb)
          · rw [amtC_app, amtC_one, h.sum]
          · rw [List.length_append]; simp; omega
          · rcases List.mem_append.1 he with he | he
            · exact h.ix e he
            · rw [List.mem_singleton] at he; subst he; exact ⟨by show 0 ≤ p.2; omega, by show p.2 ≤ 15; omega⟩
        · simp at h0
theorem dropC_eq {L : CoinsL} {p : PtK} (hd : (L.map (·.1)).Nodup) : dropC L p = cutC L p := by
  induction L with
  | nil => rfl
  | cons e r ih =>
    rw [List.map_cons, List.nodup_cons] at hd
    unfold dropC cutC at *
    by_cases h : e.1 = p
    · rw [List.eraseP_cons_of_pos (by simpa using h), List.filter_cons_of_neg (by simpa using h)]
      exact (List.filter_eq_self.2 (fun x hx => by
        have : x.1 ≠ p := fun hxp => hd.1 (List.mem_map.2 ⟨x, hx, by rw [hxp, h]⟩)
        simpa using this)).symm
    · rw [List.eraseP_cons_of_neg (by simpa using h), List.filter_cons_of_pos (by simpa using h), ih hd.2]
theorem amtC_cut {L : CoinsL} {p : PtK} (hd : (L.map (·.1)).Nodup) : amtC (cutC L p) = amtC L - ((lookC L p).getD noCoin).2 := by
  induction L with
  | nil => rfl
  | cons e r ih =>
    rw [List.map_cons, List.nodup_cons] at hd
    by_cases h : e.1 = p
    · have h1 : cutC (e :: r) p = r := by
        unfold cutC
        rw [List.filter_cons_of_neg (by simpa using h)]
        exact List.filter_eq_self.2 (fun x hx => by
          have : x.1 ≠ p := fun hxp => hd.1 (List.mem_map.2 ⟨x, hx, by rw [hxp, h]⟩)
          simpa using this)
      have h2 : lookC (e :: r) p = some e.2 := by unfold lookC; rw [List.find?_cons_of_pos (by simpa using h)]; rfl
      rw [h1, h2]
      unfold amtC
      rw [List.map_cons, List.sum_cons]
      simp only [Option.getD_some]
      omega
    · have h1 : cutC (e :: r) p = e :: cutC r p := by unfold cutC; rw [List.filter_cons_of_pos (by simpa using h)]
      have h2 : lookC (e :: r) p = lookC r p := by unfold lookC; rw [List.find?_cons_of_neg (by simpa using h)]
      have h3 := ih hd.2
      rw [h1, h2]
      unfold amtC at h3 ⊢
      rw [List.map_cons, List.sum_cons, List.map_cons, List.sum_cons, h3]
      omega
theorem RelC.amtp {X L : CoinsL} {s : Int} (h : RelC X L s) (p : PtK) : 0 ≤ ((lookC L p).getD noCoin).2 ∧ ((lookC L p).getD noCoin).2 ≤ s := by
  have h1 := amtC_cut (p := p) h.ok.2
  have h2 := amtC_nn (l := cutC L p) (fun e he => h.ok.1 e (List.mem_filter.1 he).1)
  have h3 := h.sum
  refine ⟨?_, by omega⟩
  cases hl : lookC L p with
  | none => simp [noCoin]
  | some c =>
    obtain ⟨e, he, rfl⟩ := Option.map_eq_some_iff.1 (show (L.find? (fun e => e.1 == p)).map (·.2) = some c from hl)
    exact (h.ok.1 e (List.mem_of_find?_eq_some he)).2.2.1
theorem RelC.take {X L : CoinsL} {s : Int} (h : RelC X L s) (p : PtK) : RelC (cutC X p) (dropC L p) (s - ((lookC L p).getD noCoin).2) := by
  have h1 := amtC_cut (p := p) h.ok.2
  have h2 := h.amtp p
  rw [dropC_eq h.ok.2]
  refine ⟨h.perm.filter _, List.Pairwise.filter _ h.sort, ⟨fun e he => h.ok.1 e (List.mem_filter.1 he).1, ?_⟩, ?_, ?_, ?_, fun e he => h.ix e (List.mem_filter.1 he).1⟩
  · exact List.Nodup.sublist (List.Sublist.map _ List.filter_sublist) h.ok.2
  · rw [h1, h.sum]
  · have := h.max; omega
  · exact Nat.le_trans (List.length_filter_le _ _) h.len
end Go.Proofs.YtnnjjbkdjkjnpaaGreatDoor

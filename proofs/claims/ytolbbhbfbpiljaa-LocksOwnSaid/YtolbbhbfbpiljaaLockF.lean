/- slices.IndexFunc and slices.DeleteFunc of outputs at the function that locks.Of hands on. -/
import Derived.Test.YtolbbhbfbpiljaaLockE
import Derived.Test.YtolbbhbfbpiljaaQA
namespace Go.Proofs.Ytolbbhbfbpiljaa
open Go.RowKit Go.Sort
set_option linter.unusedVariables false
theorem fm_at3 {α : Type} (f : α → List Value) (sz : Nat) : ∀ (l : List α) (k j : Nat) (x : α) (u : Value), (∀ y ∈ l, (f y).length = sz) → l[k]? = some x → (f x)[j]? = some u → (l.flatMap f)[k * sz + j]? = some u
  | [], k, j, x, u, _, hx, _ => by simp at hx
  | y :: l, 0, j, x, u, hl, hx, hu => by
    simp only [List.getElem?_cons_zero, Option.some.injEq] at hx
    subst hx
    rw [List.flatMap_cons, Nat.zero_mul, Nat.zero_add, List.getElem?_append_left (List.getElem?_eq_some_iff.1 hu).1]; exact hu
  | y :: l, k + 1, j, x, u, hl, hx, hu => by
    rw [List.getElem?_cons_succ] at hx
    have e1 : (f y).length = sz := hl y (List.mem_cons_self ..)
    rw [List.flatMap_cons, List.getElem?_append_right (by rw [e1, Nat.succ_mul]; omega), e1, show (k + 1) * sz + j - sz = k * sz + j by rw [Nat.succ_mul]; omega]
    exact fm_at3 f sz l k j x u (fun z hz => hl z (List.mem_cons_of_mem _ hz)) hx hu
theorem pf_len (l : List PtS) : (l.flatMap encPt).length = l.length * 33 := by
  induction l with
  | nil => rfl
  | cons x l ih => rw [List.flatMap_cons, List.length_append, ih, encPt_len, List.length_cons]; omega
theorem pf_take : ∀ (l : List PtS) (k : Nat), (l.flatMap encPt).take (k * 33) = (l.take k).flatMap encPt
  | [], k => by simp
  | x :: l, 0 => by simp
  | x :: l, k + 1 => by
    have h1 := encPt_len x
    rw [List.flatMap_cons, List.take_succ_cons, List.flatMap_cons, List.take_append, List.take_of_length_le (by omega), h1, show (k + 1) * 33 - 33 = k * 33 by omega, pf_take l k]
theorem pf_drop : ∀ (l : List PtS) (k : Nat), (l.flatMap encPt).drop (k * 33) = (l.drop k).flatMap encPt
  | [], k => by simp
  | x :: l, 0 => by simp
  | x :: l, k + 1 => by
    have h1 := encPt_len x
    rw [List.flatMap_cons, List.drop_succ_cons, List.drop_append, List.drop_of_length_le (by omega), h1, show (k + 1) * 33 - 33 = k * 33 by omega, pf_drop l k]; rfl
theorem pf_set {l : List PtS} {i : Nat} (x : PtS) (h : i < l.length) : splice (l.flatMap encPt) (i * 33) (encPt x) = (l.set i x).flatMap encPt := by
  unfold splice
  rw [pf_take, encPt_len, show i * 33 + 33 = (i + 1) * 33 by omega, pf_drop, List.set_eq_take_append_cons_drop, if_pos h, List.flatMap_append, List.flatMap_cons]
def OwnP (w : World) (base : Nat) (A : Option Addr) (n c : Nat) (ys : List PtS) : Prop := w.ownsRow base 52 33 (.slice A n c) n (ys.flatMap encPt)
theorem OwnP.len {w : World} {base n c : Nat} {A : Option Addr} {ys : List PtS} (h : OwnP w base A n c ys) : ys.length = n := by have := h.1; rw [pf_len] at this; omega
theorem OwnP.call {w w' : World} {base n c : Nat} {A : Option Addr} {ys : List PtS} (h : OwnP w base A n c ys) (k : Below w.heap.size w w') : OwnP w' base A n c ys := own_below h k
theorem OwnP.form {w : World} {base n c : Nat} {A : Option Addr} {ys : List PtS} (h : OwnP w base A n c ys) (hn : 0 < n) : ∃ g cur, A = some ⟨g, 0, none⟩ ∧ base ≤ g ∧ g < w.heap.size ∧ n ≤ c ∧ c ≤ maxLen ∧ Blk w g 52 cur ∧ cur.length = c * 33 ∧ cur.take (n * 33) = ys.flatMap encPt := by
  rcases h.2 with ⟨hv, h0⟩ | ⟨g, cap, cur, hv, hbg, hh, hcap, hm, hs, ht⟩
  · omega
  · injection hv with hA _ hc
    subst hc
    exact ⟨g, cur.toList, hA, hbg, (Array.getElem?_eq_some_iff.1 hh).1, hcap, hm, by unfold Blk; rw [Array.toArray_toList]; exact hh, by rw [Array.length_toList]; exact hs, ht⟩
theorem OwnP.at_ {w : World} {base g n c : Nat} {ys : List PtS} (h : OwnP w base (some ⟨g, 0, none⟩) n c ys) {k : Nat} {x : PtS} (hk : ys[k]? = some x) : ∀ j u, (encPt x)[j]? = some u → w.cell? ⟨g, k * 33 + j, none⟩ = some u := by
  intro j u hu
  have hkl := (List.getElem?_eq_some_iff.1 hk).1
  have hl := h.len
  obtain ⟨g', cur, hA, _, _, _, _, hb, _, ht⟩ := h.form (by omega)
  injection hA with hA; injection hA with hA; subst hA
  have hc := fm_at3 encPt 33 ys k j x u (fun y _ => encPt_len y) hk hu
  rw [← ht, List.getElem?_take] at hc
  split at hc
  · exact hb.at_ hc
  · cases hc
theorem OwnP.set_ {w w' : World} {base g n c i : Nat} {ys : List PtS} {cur : List Value} (h : OwnP w base (some ⟨g, 0, none⟩) n c ys) (hi : i < n) (hb : Blk w g 52 cur) (x : PtS) (hb' : Blk w' g 52 (splice cur (i * 33) (encPt x))) : OwnP w' base (some ⟨g, 0, none⟩) n c (ys.set i x) := by
  have hl := h.len
  obtain ⟨g', cur', hA, h1, h2, h3, h4, hbb, h5, ht⟩ := h.form (by omega)
  injection hA with hA; injection hA with hA; subst hA
  have hcc : cur' = cur := by
    unfold Blk at hb hbb
    rw [hb] at hbb
    injection hbb with hbb; injection hbb with hbb
    have := congrArg Array.toList hbb
    simpa using this.symm
  subst hcc
  have hxl := encPt_len x
  have hi33 : i * 33 + 33 ≤ n * 33 := by omega
  have hn33 : n * 33 ≤ c * 33 := by omega
  refine ⟨by rw [pf_len, List.length_set, hl], .inr ⟨g, c, _, rfl, h1, hb', h3, h4, by rw [List.size_toArray, length_splice _ _ _ (by omega), h5], ?_⟩⟩
  rw [List.toList_toArray, ← pf_set x (by omega), ← ht]
  apply List.ext_getElem?
  intro k
  rw [List.getElem?_take, splice_get _ _ _ _ (by omega), splice_get _ _ _ _ (by rw [List.length_take]; omega), List.getElem?_take]
  split
  · rfl
  · split
    · omega
    · rfl
theorem blk_setC {g : Nat} {t : TypeId} : ∀ (vs : List Value) (o : Nat) (w : World) (cs : List Value), Blk w g t cs → o + vs.length ≤ cs.length → Blk (w.setCells g o vs) g t (splice cs o vs)
  | [], o, w, cs, h, _ => by simpa [splice, World.setCells] using h
  | v :: r, o, w, cs, h, hl => by
    simp only [List.length_cons] at hl
    have h1 := blk_setC r (o + 1) _ _ (h.set_ o v) (by rw [List.length_set]; omega)
    have e : splice (cs.set o v) (o + 1) r = splice cs o (v :: r) := by
      apply List.ext_getElem?
      intro k
      rw [splice_get _ _ _ _ (by rw [List.length_set]; omega), splice_get _ _ _ _ (by simp only [List.length_cons]; omega)]
      simp only [List.length_cons]
      by_cases h1 : k = o
      · subst h1
        rw [if_neg (by omega), if_pos (by omega), List.getElem?_set, if_pos rfl, if_pos (by omega), Nat.sub_self]; rfl
      · by_cases h2 : o + 1 ≤ k ∧ k < o + 1 + r.length
        · rw [if_pos h2, if_pos (by omega), show k - o = (k - (o + 1)) + 1 by omega, List.getElem?_cons_succ]
        · rw [if_neg h2, if_neg (by omega), List.getElem?_set, if_neg (by omega)]
    rw [e] at h1
    exact h1
theorem grown_tr {a b c : World} {r : Option Nat} (h : a.grownBy b r) (k : b.grownBy c r) : a.grownBy c r :=
  ⟨k.os.trans h.os, k.tape.trans h.tape, k.output.trans h.output, Nat.le_trans h.size k.size, fun i hi hn => (k.block i (Nat.lt_of_lt_of_le hi h.size) hn).trans (h.block i hi hn)⟩
theorem grown_setC (g : Nat) : ∀ (vs : List Value) (o : Nat) (w : World), w.grownBy (w.setCells g o vs) (some g) ∧ (w.setCells g o vs).heap.size = w.heap.size
  | [], o, w => ⟨⟨rfl, rfl, rfl, Nat.le_refl _, fun _ _ _ => rfl⟩, rfl⟩
  | v :: r, o, w => by
    obtain ⟨h1, h2⟩ := grown_setC g r (o + 1) (w.setCell ⟨g, o, none⟩ v)
    exact ⟨grown_tr (grown_set w g o v) h1, h2.trans (by simp)⟩
section
variable {P : Program} {ops : Array Oper} {rest : List Oper} {o : Oper} {a : Act} {w : World} {Q : Exit → Act → World → Prop}
theorem wpl_storep (hgd : o.guard = none) {T : TypeId} {x y : Operand} (ho : o.op = .store T x y) {n : Nat} (hT : RowT P T n) {g off : Nat} {t : TypeId} {old cs : List Value} (hb : Blk w g t old) (hx : a.eval x = .pointer (some ⟨g, off, none⟩)) (hy : a.eval y = .agg cs.toArray)
    (hn : cs.length = n) (hle : off + n ≤ old.length) (h1 : ∀ u ∈ cs, u.oneCell' = true)
    (h : ∀ w', Blk w' g t (splice old off cs) → w.grownBy w' (some g) → w'.heap.size = w.heap.size → wpList P ops Q rest (a.put o.dst undef) w') : wpList P ops Q (o :: rest) a w := by
  obtain ⟨d, hu, hd, hi⟩ := hT
  refine wpList_store_mid hgd T x y ho g off cs.toArray hx hy (fun j hj => ?_) (by rw [hi]; simp [hn]) (all_oneCell_toArray h1) ?_
  · simp only [List.size_toArray] at hj
    exact ⟨by rw [hb.at_ (List.getElem?_eq_getElem (show off + j < old.length by omega))]; rfl, hb.frozen _⟩
  · obtain ⟨h2, h3⟩ := grown_setC g cs off w
    exact h _ (blk_setC cs off w old hb (by omega)) h2 h3
end
/-- The first place where something holds. -/
def firstAt (d : PtS → Bool) (l : List PtS) (r : Int) : Prop := (r = -1 ∧ ∀ x ∈ l, d x = false) ∨ ∃ i x, r = ((i : Nat) : Int) ∧ l[i]? = some x ∧ d x = true ∧ ∀ y ∈ l.take i, d y = false
/-- The function value that Of makes. -/
def ofV (Bl Bi : Nat) : Value := .func (.func 56) #[] #[.pointer (some ⟨Bl, 0, none⟩), .pointer (some ⟨Bi, 0, none⟩)]
set_option maxRecDepth 100000 in
set_option maxHeartbeats 2000000 in
theorem ix_any (Z : Nat) (w0 : World) (hZ : Z ≤ w0.heap.size) (Bl Bi : Nat) (dl : PtS → Bool) (HD : ∀ w', Below Z w0 w' → ∀ x : PtS, Calls Try.prog 56 #[ptA x.1, .pointer (some ⟨Bl, 0, none⟩), .pointer (some ⟨Bi, 0, none⟩)] w' fun e w'' => e = .returned (.bool (dl x)) ∧ Below w'.heap.size w' w'')
    {A : Option Addr} {n c : Nat} {ks : List PtS} (w : World) (hB : Below Z w0 w) (h : OwnP w Z A n c ks) (hn : n ≤ 1000000) :
    Calls Try.prog 87 #[.slice A n c, ofV Bl Bi] w fun e w' => ∃ r, e = .returned (.int .i64 r) ∧ firstAt dl ks r ∧ Below w.heap.size w w' := by
  have HO := Lib.hid h; have HL := Lib.hid h.len; have HB0 := Lib.hid hB; have HDD := Lib.hid HD; have HZZ := Lib.hid (Nat.le_trans hZ hB.size)
  unfold ofV
  clear h HD hB hZ
  go_enter Try.func87, Try.ntmps87
  go_wp2_with fail
  go_loopw [8] (fun iv wr => ∃ k : Nat, k ≤ n ∧ iv = .int .i64 k ∧ Hid ((∀ y ∈ ks.take k, dl y = false) ∧ Below w.heap.size w wr)) (fun iv _ => n - (intOf iv).toNat)
  case atStart => exact ⟨0, by omega, rfl, Lib.hid ⟨by simp, Below.refl _ _⟩⟩
  case round =>
    obtain ⟨k, hk, rfl, hI⟩ := hrel
    have HT := Lib.hid hI.out.1; have HB := Lib.hid hI.out.2
    clear hI
    by_cases hlt : k < n
    · have hkk : ks[k]? = some (ks[k]'(by have := HL.out; omega)) := List.getElem?_eq_getElem _
      obtain ⟨x, hx⟩ : ∃ x, x = ks[k]'(by have := HL.out; omega) := ⟨_, rfl⟩
      rw [← hx] at hkk
      have HKK := Lib.hid hkk
      have HOR := Lib.hid (HO.out.call HB.out)
      obtain ⟨g, cur, rfl, -⟩ := HO.out.form (by omega)
      have HCE := Lib.hid (HOR.out.at_ hkk)
      have HXL := Lib.hid (encPt_len x)
      have HCL := Lib.hid (HDD.out wr (HB0.out.trans (HB.out.mono HZZ.out)) x)
      obtain ⟨r, hr⟩ : ∃ r, r = dl x := ⟨_, rfl⟩
      rw [← hr] at HCL
      have HRX := Lib.hid hr
      clear hkk hx hr
      rw [show ptA x.1 = .agg (encPt x).toArray from rfl] at HCL
      obtain ⟨xs, hxs⟩ : ∃ q, q = encPt x := ⟨_, rfl⟩
      rw [← hxs] at HCE HXL HCL
      clear hxs
      go_wp2_with (first | (with_reducible refine wpl_loadm (o := ⟨some 15, _, _, _, _, _⟩) rfl rfl row_point HCE.out rfl HXL.out ?_))
      refine HCL.out.mono ?_
      rintro e w2 ⟨rfl, hb2⟩
      have HB2 := Lib.hid (HB.out.trans (hb2.mono HB.out.size))
      clear hb2
      cases r with
      | true =>
        go_wp2_with fail
        go_ret
        exact ⟨k, rfl, .inr ⟨k, x, rfl, HKK.out, HRX.out.symm, HT.out⟩, HB2.out⟩
      | false =>
        have HT2 := Lib.hid (show ∀ y ∈ ks.take (k + 1), dl y = false from fun y hy => by
          rw [List.take_add_one, HKK.out] at hy
          rcases List.mem_append.1 hy with hy | hy
          · exact HT.out y hy
          · have : y = x := by simpa using hy
            rw [this]; exact HRX.out.symm)
        go_wp2_with fail
        go_roundw
        case rel => exact ⟨k + 1, by omega, by go_num, Lib.hid ⟨HT2.out, HB2.out⟩⟩
        case measure => simp [intOf]; omega
    · obtain rfl : k = n := by omega
      go_wp2_with fail
      go_ret
      refine ⟨-1, rfl, .inl ⟨rfl, ?_⟩, HB.out⟩
      have := HT.out
      rw [List.take_of_length_le (by have := HL.out; omega)] at this
      exact this
end Go.Proofs.Ytolbbhbfbpiljaa

/- Arguments opened: slices, of whatever elements; slices of bytes, of slices of bytes, of digests. -/
import Derived.Test.YtolbbhbfbpiljaaOpenB
import Derived.Deep.Slices
namespace Go.Proofs.Ytolbbhbfbpiljaa
open Go.RowKit Go.ChangeShapes Go.WideShapes Go.Deep
set_option linter.unusedVariables false
section
variable {H : Type} {enc : TypeId × Value → H} {P : Program} {w : World} {r : Reach} {b0 base : Nat} {spare : Nat → Bool} {held : Bool}

theorem flat_len {α : Type} {f : α → List Value} {sz : Nat} : ∀ {l : List α}, (∀ x ∈ l, (f x).length = sz) → (l.flatMap f).length = l.length * sz
  | [], _ => by simp
  | x :: l, h => by
    rw [List.flatMap_cons, List.length_append, h x (by simp), flat_len (l := l) (fun y hy => h y (by simp [hy])), List.length_cons, Nat.succ_mul, Nat.add_comm]
theorem flat_at {α : Type} {f : α → List Value} {sz : Nat} : ∀ {l : List α}, (∀ x ∈ l, (f x).length = sz) → 0 < sz → ∀ {j : Nat} {u : Value}, (l.flatMap f)[j]? = some u → ∃ x, l[j / sz]? = some x ∧ (f x)[j % sz]? = some u
  | [], _, _, j, u, hu => by simp at hu
  | x :: l, h, h0, j, u, hu => by
    rw [List.flatMap_cons] at hu
    have hx := h x (by simp)
    by_cases hj : j < sz
    · rw [List.getElem?_append_left (by omega)] at hu
      refine ⟨x, by rw [Nat.div_eq_of_lt hj]; rfl, by rw [Nat.mod_eq_of_lt hj]; exact hu⟩
    · rw [List.getElem?_append_right (by omega), hx] at hu
      obtain ⟨y, h1, h2⟩ := flat_at (l := l) (fun y hy => h y (by simp [hy])) h0 hu
      have e1 : j / sz = (j - sz) / sz + 1 := by rw [← Nat.div_eq_sub_div h0 (by omega)]
      have e2 : j % sz = (j - sz) % sz := by rw [Nat.mod_eq_sub_mod (by omega)]
      exact ⟨y, by rw [e1, List.getElem?_cons_succ]; exact h1, by rw [e2]; exact h2⟩

/-- A slice that came in, of elements whose cells are 'f x'. -/
theorem open_list0 {α : Type} [Inhabited α] (f : α → List Value) (ok : α → Prop) {t e : TypeId} {fuel : Nat} {cs : List Value} {y : DataW H × List MemPlace} {sz : Nat} (ht : P.underlying t = some (.slice e)) (hce : P.cellsOf e = sz) (hsz : 0 < sz)
    (helem : ∀ fuel cs y, cs.length = sz → DataW.trod enc P w base spare held fuel e cs = some y → ∃ x, cs = f x ∧ ok x)
    (hf : DataW.trod enc P w base spare held fuel t cs = some y) :
    ∃ A n c, ∃ l : List α, cs = [.slice A n c] ∧ l.length = n ∧ n ≤ c ∧ c ≤ maxLen ∧ Sl w w.heap.size sz A n (l.flatMap f) ∧ (∀ x ∈ l, ok x) ∧ (∀ x ∈ l, (f x).length = sz) := by
  rcases open_slice ht hf with ⟨hcs, _⟩ | ⟨a, n, c, m, k, D, Pl, hcs, _, hl, hm, hmm, _, hx⟩
  · subst hcs
    exact ⟨none, 0, 0, [], rfl, rfl, Nat.le_refl _, Nat.zero_le _, ⟨by simp, fun h => absurd h (by omega)⟩, by simp, by simp⟩
  · subst hcs
    have hle : n ≤ m := by rw [hmm]; split <;> omega
    rw [hce] at hx
    obtain ⟨X, hX⟩ := choose_lt (n := n) (p := fun i (x : α) => w.cells? base (a.add (i * sz)) sz = some (f x) ∧ (f x).length = sz ∧ ok x) (fun i hi => by
      obtain ⟨cs', h1, h2⟩ := hx i (by omega)
      obtain ⟨_, hlen, _⟩ := World.cells?_some h1
      obtain ⟨x, e, hok⟩ := helem _ _ _ hlen h2
      exact ⟨x, by rw [← e]; exact h1, by rw [← e]; exact hlen, hok⟩)
    have hlen : ∀ x ∈ (List.range n).map X, (f x).length = sz := by
      intro x hx
      obtain ⟨i, hi, rfl⟩ := List.mem_map.1 hx
      exact (hX i (by simpa using hi)).2.1
    refine ⟨some a, n, c, (List.range n).map X, rfl, by simp, hl, hm, ⟨by rw [flat_len hlen]; simp, fun hn => ?_⟩, ?_, hlen⟩
    · obtain ⟨b, off, spot⟩ := a
      obtain ⟨_, _, h0⟩ := World.cells?_some (hX 0 hn).1
      have h00 := h0 0 hsz
      have hc0 : ∃ u, w.cell? ((Addr.add ⟨b, off, spot⟩ (0 * sz)).add 0) = some u := ⟨_, by rw [h00, List.getElem?_eq_getElem (by rw [(hX 0 hn).2.1]; exact hsz)]⟩
      obtain ⟨u0, hu0⟩ := hc0
      have hspot : spot = none := by simpa [Addr.add] using World.cell?_spot hu0
      subst hspot
      refine ⟨b, off, rfl, by have := World.block_lt_of_cell? w _ hu0; simpa [Addr.add] using this, fun j u hu => ?_⟩
      obtain ⟨x, h1, h2⟩ := flat_at hlen hsz hu
      rw [List.getElem?_map] at h1
      obtain ⟨i, h3, rfl⟩ := Option.map_eq_some_iff.1 h1
      have hi : j / sz = i ∧ i < n := by
        rcases Nat.lt_or_ge (j / sz) n with hl | hl
        · rw [List.getElem?_range hl] at h3; cases h3; exact ⟨rfl, hl⟩
        · rw [List.getElem?_eq_none (by simpa using hl)] at h3; cases h3
      obtain ⟨_, _, hc⟩ := World.cells?_some (hX i hi.2).1
      have := hc (j % sz) (Nat.mod_lt _ hsz)
      rw [h2, Addr.add_lit, Addr.add_lit] at this
      rw [← this, ← hi.1]
      have := Nat.div_add_mod j sz
      have e : off + j = off + j / sz * sz + j % sz := by rw [Nat.mul_comm] at this; omega
      rw [e]
    · intro x hx
      obtain ⟨i, hi, rfl⟩ := List.mem_map.1 hx
      exact (hX i (by simpa using hi)).2.2

theorem open_list {α : Type} [Inhabited α] (f : α → List Value) (ok : α → Prop) {t e : TypeId} {v : Value} {d : DataW H} {ps : List MemPlace} {sz : Nat} (ht : P.underlying t = some (.slice e)) (hce : P.cellsOf e = sz) (hsz : 0 < sz)
    (helem : ∀ fuel cs y, cs.length = sz → DataW.trod enc P w base spare held fuel e cs = some y → ∃ x, cs = f x ∧ ok x)
    (hval : Value.okWide P w r b0 t v) (h : DataW.Trod enc P w base spare held t v d ps) :
    ∃ A n c, ∃ l : List α, v = .slice A n c ∧ l.length = n ∧ n ≤ c ∧ c ≤ maxLen ∧ Sl w w.heap.size sz A n (l.flatMap f) ∧ (∀ x ∈ l, ok x) ∧ (∀ x ∈ l, (f x).length = sz) := by
  obtain ⟨A, n, c, rfl⟩ := okWide_slice ht hval
  obtain ⟨fuel, hf⟩ := h
  obtain ⟨A', n', c', l, h1, hr⟩ := open_list0 f ok ht hce hsz helem hf
  have h1 : A = A' ∧ n = n' ∧ c = c' := by simpa [Value.cells] using h1
  obtain ⟨rfl, rfl, rfl⟩ := h1
  exact ⟨A, n, c, l, rfl, hr⟩

theorem flat_one {α : Type} (g : α → Value) (l : List α) : l.flatMap (fun x => [g x]) = l.map g := by
  induction l with
  | nil => rfl
  | cons x l ih => simp [ih]

theorem trod_u8 {e : TypeId} (he : P.underlying e = some (.int .u8)) {fuel : Nat} {cs : List Value} {y : DataW H × List MemPlace} (h : DataW.trod enc P w base spare held fuel e cs = some y) : ∃ x : UInt8, cs = [B x] ∧ True := by
  obtain ⟨z, h1, _, h2⟩ := DataW.trod_int he h
  have hz := bounds_u8 h2
  refine ⟨UInt8.ofNat z.toNat, ?_, trivial⟩
  rw [h1]
  simp only [B, b8]
  congr 2
  rw [UInt8.toNat_ofNat']; omega
theorem open_u8s0 {t e : TypeId} {fuel : Nat} {cs : List Value} {y : DataW H × List MemPlace} (ht : P.underlying t = some (.slice e)) (he : P.underlying e = some (.int .u8)) (hce : P.cellsOf e = 1) (h : DataW.trod enc P w base spare held fuel t cs = some y) :
    ∃ A n c, ∃ bs : List UInt8, cs = [.slice A n c] ∧ Sl w w.heap.size 1 A n (bs.map B) ∧ n ≤ c ∧ c ≤ maxLen ∧ bs.length = n := by
  obtain ⟨A, n, c, l, h1, h2, h3, h4, h5, _⟩ := open_list0 (fun x : UInt8 => [B x]) (fun _ => True) ht hce (by omega) (fun fuel cs y _ h => trod_u8 he h) h
  exact ⟨A, n, c, l, h1, by rw [← flat_one]; exact h5, h3, h4, h2⟩
theorem open_u8s {t e : TypeId} {v : Value} {d : DataW H} {ps : List MemPlace} (ht : P.underlying t = some (.slice e)) (he : P.underlying e = some (.int .u8)) (hce : P.cellsOf e = 1) (hval : Value.okWide P w r b0 t v) (h : DataW.Trod enc P w base spare held t v d ps) :
    ∃ A n c, ∃ bs : List UInt8, v = .slice A n c ∧ Sl w w.heap.size 1 A n (bs.map B) ∧ n ≤ c ∧ c ≤ maxLen := by
  obtain ⟨A, n, c, l, h1, h2, h3, h4, h5, _⟩ := open_list (fun x : UInt8 => [B x]) (fun _ => True) ht hce (by omega) (fun fuel cs y _ h => trod_u8 he h) hval h
  exact ⟨A, n, c, l, h1, by rw [← flat_one]; exact h5, h3, h4⟩
end
end Go.Proofs.Ytolbbhbfbpiljaa

/- Words for memory that all proofs of this set share: a slice that reads as a list of cells; append and make on rows of the call's own; a block known whole. No program in sight. -/
import Derived.WalkKit
import Derived.WalkLawsBesides
import Derived.Lib.Hide
import Derived.Deep.Draws
import Derived.Maps.AppendAt
namespace Go.Proofs.Ytliglgpkboieeaa
open Go.RowKit

theorem ret_of {a b : Value} (h : a = b) : Ending.returned a = .returned b := by rw [h]
theorem ret_bool {a b : Bool} (h : a = b) : Ending.returned (.bool a) = .returned (.bool b) := by rw [h]
theorem ret_int {k : IntKind} {a b : Int} (h : a = b) : Ending.returned (.int k a) = .returned (.int k b) := by rw [h]

theorem bcell {W w1 : World} (hb : Below W.heap.size W w1) {b o : Nat} {v : Value} (h : W.cell? ⟨b, o, none⟩ = some v) : w1.cell? ⟨b, o, none⟩ = some v :=
  (hb.cell (p := ⟨b, o, none⟩) (World.block_lt_of_cell? W ⟨b, o, none⟩ h)).trans h

theorem set_upto {xs : List Value} {f : Nat → Value} {n k : Nat} (hl : xs.length = n) (hk : k < n) (h : ∀ i, i < k → xs[i]? = some (f i)) : ∀ i, i < k + 1 → (xs.set k (f k))[i]? = some (f i) := by
  intro i hi
  rw [List.getElem?_set]
  by_cases e : k = i
  · subst e; rw [if_pos rfl, if_pos (by omega)]
  · rw [if_neg e]; exact h i (by omega)

theorem eq_of_upto {xs : List Value} {f : Nat → Value} {n : Nat} (hl : xs.length = n) (h : ∀ i, i < n → xs[i]? = some (f i)) : xs = (List.range n).map f := by
  apply List.ext_getElem?
  intro i
  by_cases hi : i < n
  · rw [h i hi]; simp [hi]
  · rw [List.getElem?_eq_none (by omega), List.getElem?_eq_none (by simp; omega)]

/-! ### A slice that reads as cells -/
/-- The slice at A with n elements of sz cells each reads as the cells xs, in a block below B. -/
def Sl (w : World) (B sz : Nat) (A : Option Addr) (n : Nat) (xs : List Value) : Prop :=
  xs.length = n * sz ∧ (0 < n → ∃ b off, A = some ⟨b, off, none⟩ ∧ b < B ∧ ∀ j u, xs[j]? = some u → w.cell? ⟨b, off + j, none⟩ = some u)

section
variable {w w' : World} {B B' sz n : Nat} {A : Option Addr} {xs : List Value}

theorem Sl.nil : Sl w B sz A 0 [] := ⟨by simp, fun h => absurd h (by omega)⟩
theorem Sl.len (h : Sl w B 1 A n xs) : xs.length = n := by have := h.1; omega

theorem Sl.at_ {k : Nat} (h : Sl w B 1 A n xs) (hk : k < n) : ∃ b off u, A = some ⟨b, off, none⟩ ∧ b < B ∧ xs[k]? = some u ∧ w.cell? ⟨b, off + k, none⟩ = some u := by
  obtain ⟨b, off, e, hb, hc⟩ := h.2 (by omega)
  have hl : k < xs.length := by have := h.1; omega
  exact ⟨b, off, xs[k], e, hb, List.getElem?_eq_getElem hl, hc k _ (List.getElem?_eq_getElem hl)⟩

theorem Sl.keep (h : Sl w B sz A n xs) (hk : ∀ p : Addr, p.block < B → w'.cell? p = w.cell? p) : Sl w' B sz A n xs :=
  ⟨h.1, fun hn => by
    obtain ⟨b, off, e, hb, hc⟩ := h.2 hn
    exact ⟨b, off, e, hb, fun j u hu => (hk ⟨b, off + j, none⟩ hb).trans (hc j u hu)⟩⟩

theorem Sl.more (h : Sl w B sz A n xs) (hB : B ≤ B') : Sl w B' sz A n xs :=
  ⟨h.1, fun hn => by
    obtain ⟨b, off, e, hb, hc⟩ := h.2 hn
    exact ⟨b, off, e, by omega, hc⟩⟩

theorem Sl.below (h : Sl w B sz A n xs) (hb : Below B w w') : Sl w' B sz A n xs := h.keep fun _ hp => hb.cell hp
theorem Sl.drew (h : Sl w B sz A n xs) : Sl w.drew B sz A n xs := h
theorem Sl.drewN (h : Sl w B sz A n xs) (k : Nat) : Sl (w.drewN k) B sz A n xs := h
theorem Sl.alloc (h : Sl w B sz A n xs) (hB : B ≤ w.heap.size) (o : Obj) : Sl (w.alloc o) B sz A n xs := h.keep fun p hp => World.cell?_alloc_lt w o p (by omega)
theorem Sl.setCell (h : Sl w B sz A n xs) {p : Addr} (hB : B ≤ p.block) (u : Value) : Sl (w.setCell p u) B sz A n xs :=
  h.keep fun q hq => World.cell?_setCell_other w p q u (fun e => by subst e; omega)
theorem Sl.grown (h : Sl w B sz A n xs) {row : Option Nat} (hg : w.grownBy w' row) (hB : B ≤ w.heap.size) (hr : ∀ g, row = some g → B ≤ g) : Sl w' B sz A n xs :=
  h.keep fun p hp => World.cell?_of_block (hg.block p.block (by omega) (fun e => by have := hr _ e.symm; omega))

/-- A cut 's[k:h]': the walk writes its address with the model's own 'if'. -/
theorem Sl.cut (h : Sl w B sz A n xs) {k m cap : Nat} (hk : k + m ≤ n) (hc : n ≤ cap) :
    Sl w B sz (if cap = k then A else A.map (·.add (k * sz))) m ((xs.drop (k * sz)).take (m * sz)) := by
  have hmul : (k + m) * sz ≤ n * sz := Nat.mul_le_mul_right _ hk
  refine ⟨?_, fun hn => ?_⟩
  · rw [List.length_take, List.length_drop, h.1, Nat.min_eq_left]
    rw [Nat.add_mul] at hmul; omega
  · obtain ⟨b, off, rfl, hb, hcell⟩ := h.2 (by omega)
    rw [if_neg (by omega)]
    refine ⟨b, off + k * sz, ?_, hb, fun j u hu => ?_⟩
    · simp only [Option.map_some, Addr.add]
      split <;> simp_all
    · have hu2 : xs[k * sz + j]? = some u := by
        rw [List.getElem?_take] at hu
        split at hu
        · rw [← hu, List.getElem?_drop]
        · cases hu
      rw [Nat.add_assoc]
      exact hcell _ u hu2

theorem Sl.of_own {base : Nat} {e : TypeId} {c : Nat} (h : w.ownsRow base e sz (.slice A n c) n xs) : Sl w w.heap.size sz A n xs := by
  refine ⟨h.1, fun hn => ?_⟩
  rcases h.2 with ⟨hv, h0⟩ | ⟨g, cap, cur, hv, hbg, hh, hcap, hm, hs, ht⟩
  · omega
  · injection hv with hA
    have hlt := (h.lt g (by rw [hA]; rfl)).2
    refine ⟨g, 0, hA, hlt, fun j u hu => ?_⟩
    have := h.cells (g := g) (by rw [hA]; rfl) j u hu
    rwa [Addr.add_lit] at this

/-- A slice of integers that came in, as the row's reading gives it. -/
theorem Sl.of_open {k : IntKind} {x : Addr} {len cap : Nat} {zs : List Int} (hl : len ≤ cap) (hz : zs.length = cap)
    (hcell : ∀ i, i < zs.length → w.cell? (x.add i) = some (.int k (zs.getD i 0))) : Sl w w.heap.size 1 (some x) len ((zs.take len).map (Value.int k)) := by
  refine ⟨by rw [List.length_map, List.length_take]; omega, fun hn => ?_⟩
  obtain ⟨b, off, spot⟩ := x
  have h0 := hcell 0 (by omega)
  have hspot : spot = none := by simpa [Addr.add] using World.cell?_spot h0
  subst hspot
  refine ⟨b, off, rfl, by have := World.block_lt_of_cell? w _ h0; simpa [Addr.add] using this, fun j u hu => ?_⟩
  rw [List.getElem?_map] at hu
  obtain ⟨z, h1, rfl⟩ := Option.map_eq_some_iff.1 hu
  rw [List.getElem?_take] at h1
  split at h1
  · have := hcell j (by omega)
    rw [Addr.add_lit] at this
    rw [this, List.getD_eq_getElem?_getD, h1]; rfl
  · cases h1

/-- A row that a literal has just made. -/
theorem Sl.lit (w : World) (cs : Array Value) (t : TypeId) (n : Nat) (h : cs.size = n * sz) : Sl (w.alloc (.cells cs t)) (w.heap.size + 1) sz (some ⟨w.heap.size, 0, none⟩) n cs.toList :=
  ⟨by simpa using h, fun _ => ⟨_, _, rfl, by omega, fun j u hu => by simpa using hu⟩⟩
end

/-! ### Rows of the call's own -/
section
variable {w w' : World} {base : Nat} {e : TypeId} {sz n c : Nat} {A : Option Addr} {xs : List Value}

theorem own_form (h : w.ownsRow base e sz (.slice A n c) n xs) (hn : 0 < n) : ∃ g, A = some ⟨g, 0, none⟩ ∧ base ≤ g ∧ g < w.heap.size ∧ n ≤ c := by
  rcases h.2 with ⟨_, h0⟩ | ⟨g, cap, cur, hv, hbg, hh, hcap, _⟩
  · omega
  · injection hv with hA _ hc
    exact ⟨g, hA, hbg, (h.lt g (by rw [hA]; rfl)).2, by omega⟩

theorem own_cell {g j : Nat} (h : w.ownsRow base e sz (.slice (some ⟨g, 0, none⟩) n c) n xs) (hj : j < n * sz) : ∃ u, w.cell? ⟨g, j, none⟩ = some u := by
  have h1 := h.cellAt j hj
  have h2 := h.1
  rw [List.getElem?_eq_getElem (by omega)] at h1
  exact ⟨_, h1⟩

theorem own_below (h : w.ownsRow base e sz (.slice A n c) n xs) (hb : Below w.heap.size w w') : w'.ownsRow base e sz (.slice A n c) n xs := by
  obtain ⟨h1, h2⟩ := h
  refine ⟨h1, ?_⟩
  rcases h2 with h2 | ⟨g, cap, cur, hv, hg, hh, r⟩
  · exact .inl h2
  · refine .inr ⟨g, cap, cur, hv, hg, ?_, r⟩
    rw [hb.block g ?_]; exact hh
    rcases Nat.lt_or_ge g w.heap.size with hlt | hge
    · exact hlt
    · rw [Array.getElem?_eq_none hge] at hh; cases hh

theorem own_base {base' : Nat} (h : w.ownsRow base e sz (.slice A n c) n xs) (hle : base' ≤ base) : w.ownsRow base' e sz (.slice A n c) n xs := by
  obtain ⟨h1, h2⟩ := h
  refine ⟨h1, ?_⟩
  rcases h2 with h2 | ⟨g, cap, cur, hv, hg, r⟩
  · exact .inl h2
  · exact .inr ⟨g, cap, cur, hv, by omega, r⟩

theorem own_alloc (h : w.ownsRow base e sz (.slice A n c) n xs) (o : Obj) : (w.alloc o).ownsRow base e sz (.slice A n c) n xs := h.alloc o
theorem own_drewN (h : w.ownsRow base e sz (.slice A n c) n xs) (k : Nat) : (w.drewN k).ownsRow base e sz (.slice A n c) n xs := h

theorem own_kept {row : Option Nat} (h : w.ownsRow base e sz (.slice A n c) n xs) (hg : w.grownBy w' row) (hne : ∀ g, A = some ⟨g, 0, none⟩ → some g ≠ row) : w'.ownsRow base e sz (.slice A n c) n xs := by
  refine h.kept hg ?_
  rcases h.2 with ⟨hv, _⟩ | ⟨g, cap, cur, hv, _⟩
  · injection hv with hA; subst hA; exact .inl rfl
  · injection hv with hA; subst hA; exact .inr (hne g rfl)

/-- The frame's slice value of a row of the call's own, after an append. -/
theorem own_slice {v : Value} (h : w.ownsRow base e sz v n xs) : ∃ A c, v = .slice A n c := by
  rcases h.2 with ⟨rfl, rfl⟩ | ⟨g, cap, cur, rfl, _⟩
  · exact ⟨_, _, rfl⟩
  · exact ⟨_, _, rfl⟩
end

section
variable {P : Program} (w : World)

theorem run_app_none (base : Nat) (t ty e : TypeId) (i : TypeInfo) (sz : Nat) (ht : P.underlying t = some (.slice e)) (hi : P.info? e = some i)
    (v : Value) (n : Nat) (xs : List Value) (hown : w.ownsRow base e sz v n xs) (c : Nat) : (Builtin.append_ #[t, t] ty #[v, .slice none 0 c]).run P w = .ok v w := by
  rcases hown.2 with ⟨rfl, rfl⟩ | ⟨g, cap, cur, rfl, _, _, hnc, _⟩
  · simp [Builtin.append_, run_underlying ht, sizeOf, typeInfo, hi, Builtin.lenOf, Builtin.firstCells]
  · simp [Builtin.append_, run_underlying ht, sizeOf, typeInfo, hi, Builtin.lenOf, Builtin.firstCells, hnc, storeCells]

theorem run_app (base : Nat) (t ty e : TypeId) (i : TypeInfo) (z : Value) (sz bytes : Nat) (ht : P.underlying t = some (.slice e)) (hi : P.info? e = some i) (hz : i.zero = some z)
    (hsize : i.size = sz) (hby : i.bytes = bytes) (hzs : z.cells.size = sz) (hsz : 0 < sz)
    (A : Option Addr) (n c : Nat) (xs : List Value) (hown : w.ownsRow base e sz (.slice A n c) n xs)
    (B : Nat) (A2 : Option Addr) (m c2 : Nat) (news : List Value) (hr : Sl w B sz A2 m news) (h1 : ∀ u ∈ news, u.oneCell' = true)
    (h63 : n + m ≤ maxLen) (hbytes : (n + m) * bytes ≤ 140737488355328) (hbase : base ≤ w.heap.size) :
    ∃ A' c' w', (Builtin.append_ #[t, t] ty #[.slice A n c, .slice A2 m c2]).run P w = .ok (.slice A' (n + m) c') w' ∧ w'.ownsRow base e sz (.slice A' (n + m) c') (n + m) (xs ++ news) ∧ w.grownBy w' (A.map Addr.block) ∧
      (A'.map Addr.block = A.map Addr.block ∨ A'.map Addr.block = some w.heap.size) := by
  have hob : ∀ (A : Option Addr) n c, (Value.slice A n c).ownBlock = A.map Addr.block := fun A n c => by cases A <;> rfl
  rcases Nat.eq_zero_or_pos m with h0 | h0
  · subst h0
    have hn : news = [] := List.eq_nil_of_length_eq_zero (by simpa using hr.1)
    subst hn
    rcases A2 with _ | ad
    · exact ⟨A, c, w, by simpa using run_app_none (P := P) w base t ty e i sz ht hi _ n xs hown c2, by simpa using hown, World.grownBy.refl w _, .inl rfl⟩
    · obtain ⟨v', w', hrun, h2, h3, _, h5⟩ := run_append_own_at (P := P) w base t ty e i z sz bytes ht hi hz hsize hby hzs hsz _ n xs hown ad 0 c2 [] (by simp) (by simp) (by simp) h63 hbytes hbase
      obtain ⟨A', c', rfl⟩ := own_slice h2
      simp only [hob] at h3 h5
      exact ⟨A', c', w', hrun, h2, h3, h5⟩
  · obtain ⟨b, off, rfl, _, hc⟩ := hr.2 h0
    obtain ⟨v', w', hrun, h2, h3, _, h5⟩ := run_append_own_at (P := P) w base t ty e i z sz bytes ht hi hz hsize hby hzs hsz _ n xs hown ⟨b, off, none⟩ m c2 news hr.1 (fun j u hu => by rw [Addr.add_lit]; exact hc j u hu) h1 h63 hbytes hbase
    obtain ⟨A', c', rfl⟩ := own_slice h2
    simp only [hob] at h3 h5
    exact ⟨A', c', w', hrun, h2, h3, h5⟩

theorem wp_app {o : Oper} {a : Act} {K : Act → World → Prop} {Q : Exit → Act → World → Prop} (s x : Operand) (t : TypeId)
    (ho : o.op = .call { callee := .builtin .append, args := #[s, x], argTypes := #[t, t] })
    (base : Nat) (e : TypeId) (i : TypeInfo) (z : Value) (sz bytes : Nat) (ht : P.underlying t = some (.slice e)) (hi : P.info? e = some i) (hz : i.zero = some z)
    (hsize : i.size = sz) (hby : i.bytes = bytes) (hzs : z.cells.size = sz) (hsz : 0 < sz)
    (A : Option Addr) (n c : Nat) (xs : List Value) (hs : a.eval s = .slice A n c) (hown : w.ownsRow base e sz (.slice A n c) n xs)
    (B : Nat) (A2 : Option Addr) (m c2 : Nat) (news : List Value) (hx : a.eval x = .slice A2 m c2) (hr : Sl w B sz A2 m news) (h1 : ∀ u ∈ news, u.oneCell' = true)
    (h63 : n + m ≤ maxLen) (hbytes : (n + m) * bytes ≤ 140737488355328) (hbase : base ≤ w.heap.size)
    (h : ∀ A' c' w', w'.ownsRow base e sz (.slice A' (n + m) c') (n + m) (xs ++ news) → w.grownBy w' (A.map Addr.block) → (A'.map Addr.block = A.map Addr.block ∨ A'.map Addr.block = some w.heap.size) → K (a.put o.dst (.slice A' (n + m) c')) w') : o.wp P a w K Q := by
  obtain ⟨A', c', w', hrun, h2, h3, h4⟩ := run_app (P := P) w base t o.type e i z sz bytes ht hi hz hsize hby hzs hsz A n c xs hown B A2 m c2 news hr h1 h63 hbytes hbase
  unfold Oper.wp execOp
  simp only [ho, resolve, invoke, builtin, Sem.run_bind, Sem.run_pure, Result.andThen_ok, List.map_toArray, List.map_cons, List.map_nil, hs, hx, hrun]
  exact h A' c' w' h2 h3 h4

/-- 'append' onto a row of the call's own, from whatever source; the walk's form. -/
theorem wpl_app {ops : Array Oper} {rest : List Oper} {o : Oper} {a : Act} {Q : Exit → Act → World → Prop} (hgd : o.guard = none) (s x : Operand) (t : TypeId)
    (ho : o.op = .call { callee := .builtin .append, args := #[s, x], argTypes := #[t, t] })
    (base : Nat) (e : TypeId) (i : TypeInfo) (z : Value) (sz bytes : Nat) (ht : P.underlying t = some (.slice e)) (hi : P.info? e = some i) (hz : i.zero = some z)
    (hsize : i.size = sz) (hby : i.bytes = bytes) (hzs : z.cells.size = sz) (hsz : 0 < sz)
    (A : Option Addr) (n c : Nat) (xs : List Value) (hs : a.eval s = .slice A n c) (hown : w.ownsRow base e sz (.slice A n c) n xs)
    (B : Nat) (A2 : Option Addr) (m c2 : Nat) (news : List Value) (hx : a.eval x = .slice A2 m c2) (hr : Sl w B sz A2 m news) (h1 : ∀ u ∈ news, u.oneCell' = true)
    (h63 : n + m ≤ maxLen) (hbytes : (n + m) * bytes ≤ 140737488355328) (hbase : base ≤ w.heap.size)
    (h : ∀ A' c' w', w'.ownsRow base e sz (.slice A' (n + m) c') (n + m) (xs ++ news) → w.grownBy w' (A.map Addr.block) → (A'.map Addr.block = A.map Addr.block ∨ A'.map Addr.block = some w.heap.size) → wpList P ops Q rest (a.put o.dst (.slice A' (n + m) c')) w') : wpList P ops Q (o :: rest) a w :=
  wpList_plain hgd fun _ hK => wp_app w s x t ho base e i z sz bytes ht hi hz hsize hby hzs hsz A n c xs hs hown B A2 m c2 news hx hr h1 h63 hbytes hbase fun A' c' w' h2 h3 h4 => hK _ _ (h A' c' w' h2 h3 h4)
end


/-! ### The element type's row of the table, and the laws with it -/
structure ElemT (P : Program) (t e : TypeId) (sz bytes : Nat) : Prop where
  ht : P.underlying t = some (.slice e)
  hi : ∃ i z, P.info? e = some i ∧ i.zero = some z ∧ i.size = sz ∧ i.bytes = bytes ∧ z.cells.size = sz ∧ 0 < sz

theorem elemT {P : Program} {t e : TypeId} {z : Value} {sz bytes : Nat} (ht : P.underlying t = some (.slice e))
    (h : (P.info? e).map (fun i => (i.zero, i.size, i.bytes)) = some (some z, sz, bytes)) (hz : z.cells.size = sz) (h0 : 0 < sz) : ElemT P t e sz bytes := by
  obtain ⟨i, hi, h1, h2, h3⟩ := info_parts h
  exact ⟨ht, i, z, hi, h1, h2, h3, hz, h0⟩

/-- 'append(out, src...)'. -/
theorem wpl_apps {P : Program} {w : World} {ops : Array Oper} {rest : List Oper} {o : Oper} {a : Act} {Q : Exit → Act → World → Prop} (hgd : o.guard = none) {s x : Operand} {t : TypeId}
    (ho : o.op = .call { callee := .builtin .append, args := #[s, x], argTypes := #[t, t] })
    {base : Nat} {e : TypeId} {sz bytes : Nat} (HE : ElemT P t e sz bytes)
    {A : Option Addr} {n c : Nat} {xs : List Value} (hown : w.ownsRow base e sz (.slice A n c) n xs) (hs : a.eval s = .slice A n c)
    {B : Nat} {A2 : Option Addr} {m c2 : Nat} {news : List Value} (hr : Sl w B sz A2 m news) (hx : a.eval x = .slice A2 m c2) (h1 : ∀ u ∈ news, u.oneCell' = true)
    (h63 : (n + m) * bytes ≤ 140737488355328) (hmx : n + m ≤ 140737488355328) (hbase : base ≤ w.heap.size)
    (h : ∀ A' c' w', w'.ownsRow base e sz (.slice A' (n + m) c') (n + m) (xs ++ news) → w.grownBy w' (A.map Addr.block) → (A'.map Addr.block = A.map Addr.block ∨ A'.map Addr.block = some w.heap.size) → wpList P ops Q rest (a.put o.dst (.slice A' (n + m) c')) w') : wpList P ops Q (o :: rest) a w := by
  obtain ⟨i, z, hi, hz, hsz, hby, hzs, h0⟩ := HE.hi
  exact wpl_app w hgd s x t ho base e i z sz bytes HE.ht hi hz hsz hby hzs h0 A n c xs hs hown B A2 m c2 news hx hr h1 (by simp only [maxLen]; omega) h63 hbase h

/-- 'append(out, x)', 'append(out, x, y)': the new elements stand in a row that was just laid. -/
theorem wpl_app1 {P : Program} {w : World} {ops : Array Oper} {rest : List Oper} {o : Oper} {a : Act} {Q : Exit → Act → World → Prop} (hgd : o.guard = none) {s x : Operand} {t : TypeId}
    (ho : o.op = .call { callee := .builtin .append, args := #[s, x], argTypes := #[t, t] })
    {base : Nat} {e : TypeId} {sz bytes : Nat} (HE : ElemT P t e sz bytes)
    {A : Option Addr} {n c : Nat} {xs : List Value} (hown : w.ownsRow base e sz (.slice A n c) n xs) (hs : a.eval s = .slice A n c)
    {m : Nat} {cs : Array Value} (hx : a.eval x = .slice (some ⟨w.heap.size, 0, none⟩) m m) (hcs : cs.size = m * sz) (h1 : ∀ u ∈ cs.toList, u.oneCell' = true)
    (h63 : (n + m) * bytes ≤ 140737488355328) (hmx : n + m ≤ 140737488355328) (hbase : base ≤ w.heap.size)
    (h : ∀ A' c' w', w'.ownsRow base e sz (.slice A' (n + m) c') (n + m) (xs ++ cs.toList) → w.grownBy w' (A.map Addr.block) → (A'.map Addr.block = A.map Addr.block ∨ A'.map Addr.block = some (w.heap.size + 1)) → wpList P ops Q rest (a.put o.dst (.slice A' (n + m) c')) w') : wpList P ops Q (o :: rest) a (w.alloc (.cells cs e)) := by
  refine wpl_apps hgd ho HE (own_alloc hown (.cells cs e)) hs (Sl.lit w cs e m hcs) hx h1 h63 hmx (by simp; omega) fun A' c' w' h2 h3 h4 => h A' c' w' h2 ?_ ?_
  · have hz : (w.alloc (.cells cs e)).heap.size = w.heap.size + 1 := by simp
    exact ⟨h3.os, h3.tape, h3.output, by have := h3.size; omega, fun k hk hne => (h3.block k (by omega) hne).trans (Below.heap_alloc w _ k hk)⟩
  · simpa using h4

/-- 'make([]T, n)'. -/
theorem wpl_make {P : Program} {w : World} {ops : Array Oper} {rest : List Oper} {o : Oper} {a : Act} {Q : Exit → Act → World → Prop} (hgd : o.guard = none) {l c : Operand} {t : TypeId} (ho : o.op = Op.makeSlice t l c)
    (base : Nat) {e : TypeId} {sz bytes : Nat} (HE : ElemT P t e sz bytes) {kl kc : IntKind} {n : Nat} (hl : a.eval l = .int kl n) (hc : a.eval c = .int kc n)
    (h63 : bytes * n ≤ 281474976710656) (hmx : n ≤ 281474976710656) (hbase : base ≤ w.heap.size)
    (h : ∀ w' xs, w'.ownsRow base e sz (.slice (some ⟨w.heap.size, 0, none⟩) n n) n xs → w.grownBy w' none → wpList P ops Q rest (a.put o.dst (.slice (some ⟨w.heap.size, 0, none⟩) n n)) w') : wpList P ops Q (o :: rest) a w := by
  obtain ⟨i, z, hi, hz, hsz, hby, hzs, h0⟩ := HE.hi
  exact wpList_make_full w hgd l c t ho base e i z sz HE.ht hi hz hsz kl kc n n n hl hc rfl rfl (by rw [hby]; exact h63) (by simp only [maxLen]; omega) hbase fun w' h1 h2 => h w' _ h1 h2

theorem below_chain {a b c : World} (h : Below a.heap.size a b) (k : Below b.heap.size b c) : Below a.heap.size a c := h.trans (k.mono h.size)
theorem below_dn {B : Nat} {a b : World} (h : Below B a b) (n : Nat) : Below B a (b.drewN n) := ⟨h.os, h.tape, h.output, h.size, h.block⟩
theorem below_step {B : Nat} {a b c : World} (h : Below B a b) (hB : B ≤ b.heap.size) (k : Below b.heap.size b c) : Below B a c := h.trans (k.mono hB)

/-- What an append or a make leaves of all that lies below. -/
theorem below_grown {B : Nat} {w0 w w' : World} {A : Option Addr} (h : Below B w0 w) (hg : w.grownBy w' (A.map Addr.block)) (hB : B ≤ w.heap.size) (hr : ∀ g, A.map Addr.block = some g → B ≤ g) : Below B w0 w' :=
  h.grown hg hB hr

theorem own_from {w : World} {base : Nat} {e : TypeId} {sz n c : Nat} {A : Option Addr} {xs : List Value} (h : w.ownsRow base e sz (.slice A n c) n xs) : ∀ g, A.map Addr.block = some g → base ≤ g := by
  rcases h.2 with ⟨hv, _⟩ | ⟨g, cap, cur, hv, hb, _⟩
  · injection hv with hA; subst hA; intro g hg; cases hg
  · injection hv with hA; subst hA; intro g' hg; cases hg; exact hb

theorem ints_one (k : IntKind) (zs : List Int) : ∀ u ∈ zs.map (Value.int k), u.oneCell' = true := ints_oneCell k zs

end Go.Proofs.Ytliglgpkboieeaa

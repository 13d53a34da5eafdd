/- Words for memory that all proofs of this set share: a slice that reads as a list of cells; append and make on rows of the call's own; a block known whole. No program in sight. -/
import Derived.WalkKit
import Derived.WalkLawsBesides
import Derived.Lib.Hide
import Derived.Deep.Draws
import Derived.Maps.AppendAt
import Derived.StillTailTactics
import Derived.Deep.QuietTactic
import Derived.BigQuiet
import Derived.Deep.MidRow
import Derived.Test.YtofhohofaedokaaRows
import Derived.Laws.FloatArith
set_option linter.unusedSimpArgs false
/- Words for memory that all proofs of this set share: a slice that reads as a list of cells; append and make on rows of the call's own; a block known whole. No program in sight. -/
namespace Go.Proofs.Ytofhohofaedokaa
open Go.RowKit

theorem ret_of {a b : Value} (h : a = b) : Ending.returned a = .returned b := by rw [h]
theorem ret_bool {a b : Bool} (h : a = b) : Ending.returned (.bool a) = .returned (.bool b) := by rw [h]
theorem ret_int {k : IntKind} {a b : Int} (h : a = b) : Ending.returned (.int k a) = .returned (.int k b) := by rw [h]

theorem bcell {W w1 : World} (hb : Below W.heap.size W w1) {b o : Nat} {v : Value} (h : W.cell? ⟨b, o, none⟩ = some v) : w1.cell? ⟨b, o, none⟩ = some v :=
  (hb.cell (p := ⟨b, o, none⟩) (World.block_lt_of_cell? W ⟨b, o, none⟩ h)).trans h

theorem set_upto {xs : List Value} {f : Nat → Value} {n k : Nat} (hl : xs.length = n) (hk : k < n) (h : ∀ i, i < k → xs[i]? = some (f i)) : ∀ i, i < k + 1 → (xs.set k (f k))[i]? = some (f i) := by
  intro i hi
  rw [List.getElem?_set]
  by_cases e : k = i
  · subst e; rw [if_pos rfl, if_pos (by omega)]
  · rw [if_neg e]; exact h i (by omega)

theorem eq_of_upto {xs : List Value} {f : Nat → Value} {n : Nat} (hl : xs.length = n) (h : ∀ i, i < n → xs[i]? = some (f i)) : xs = (List.range n).map f := by
  apply List.ext_getElem?
  intro i
  by_cases hi : i < n
  · rw [h i hi]; simp [hi]
  · rw [List.getElem?_eq_none (by omega), List.getElem?_eq_none (by simp; omega)]

theorem below_chain {a b c : World} (h : Below a.heap.size a b) (k : Below b.heap.size b c) : Below a.heap.size a c := h.trans (k.mono h.size)
theorem below_dn {B : Nat} {a b : World} (h : Below B a b) (n : Nat) : Below B a (b.drewN n) := ⟨h.os, h.tape, h.output, h.size, h.block⟩
theorem below_step {B : Nat} {a b c : World} (h : Below B a b) (hB : B ≤ b.heap.size) (k : Below b.heap.size b c) : Below B a c := h.trans (k.mono hB)

/-! ### A slice that reads as cells -/
/-- The slice at A with n elements of sz cells each reads as the cells xs, in a block below B. -/
def Sl (w : World) (B sz : Nat) (A : Option Addr) (n : Nat) (xs : List Value) : Prop :=
  xs.length = n * sz ∧ (0 < n → ∃ b off, A = some ⟨b, off, none⟩ ∧ b < B ∧ ∀ j u, xs[j]? = some u → w.cell? ⟨b, off + j, none⟩ = some u)

section
variable {w w' : World} {B B' sz n : Nat} {A : Option Addr} {xs : List Value}

theorem Sl.nil : Sl w B sz A 0 [] := ⟨by simp, fun h => absurd h (by omega)⟩
theorem Sl.len (h : Sl w B 1 A n xs) : xs.length = n := by have := h.1; omega

theorem Sl.at_ {k : Nat} (h : Sl w B 1 A n xs) (hk : k < n) : ∃ b off u, A = some ⟨b, off, none⟩ ∧ b < B ∧ xs[k]? = some u ∧ w.cell? ⟨b, off + k, none⟩ = some u := by
  obtain ⟨b, off, e, hb, hc⟩ := h.2 (by omega)
  have hl : k < xs.length := by have := h.1; omega
  exact ⟨b, off, xs[k], e, hb, List.getElem?_eq_getElem hl, hc k _ (List.getElem?_eq_getElem hl)⟩

theorem Sl.keep (h : Sl w B sz A n xs) (hk : ∀ p : Addr, p.block < B → w'.cell? p = w.cell? p) : Sl w' B sz A n xs :=
  ⟨h.1, fun hn => by
    obtain ⟨b, off, e, hb, hc⟩ := h.2 hn
    exact ⟨b, off, e, hb, fun j u hu => (hk ⟨b, off + j, none⟩ hb).trans (hc j u hu)⟩⟩

theorem Sl.more (h : Sl w B sz A n xs) (hB : B ≤ B') : Sl w B' sz A n xs :=
  ⟨h.1, fun hn => by
    obtain ⟨b, off, e, hb, hc⟩ := h.2 hn
    exact ⟨b, off, e, by omega, hc⟩⟩

theorem Sl.below (h : Sl w B sz A n xs) (hb : Below B w w') : Sl w' B sz A n xs := h.keep fun _ hp => hb.cell hp
theorem Sl.drew (h : Sl w B sz A n xs) : Sl w.drew B sz A n xs := h
theorem Sl.drewN (h : Sl w B sz A n xs) (k : Nat) : Sl (w.drewN k) B sz A n xs := h
theorem Sl.alloc (h : Sl w B sz A n xs) (hB : B ≤ w.heap.size) (o : Obj) : Sl (w.alloc o) B sz A n xs := h.keep fun p hp => World.cell?_alloc_lt w o p (by omega)
theorem Sl.setCell (h : Sl w B sz A n xs) {p : Addr} (hB : B ≤ p.block) (u : Value) : Sl (w.setCell p u) B sz A n xs :=
  h.keep fun q hq => World.cell?_setCell_other w p q u (fun e => by subst e; omega)
theorem Sl.grown (h : Sl w B sz A n xs) {row : Option Nat} (hg : w.grownBy w' row) (hB : B ≤ w.heap.size) (hr : ∀ g, row = some g → B ≤ g) : Sl w' B sz A n xs :=
  h.keep fun p hp => World.cell?_of_block (hg.block p.block (by omega) (fun e => by have := hr _ e.symm; omega))

/-- A cut 's[k:h]': the walk writes its address with the model's own 'if'. -/
theorem Sl.cut (h : Sl w B sz A n xs) {k m cap : Nat} (hk : k + m ≤ n) (hc : n ≤ cap) :
    Sl w B sz (if cap = k then A else A.map (·.add (k * sz))) m ((xs.drop (k * sz)).take (m * sz)) := by
  have hmul : (k + m) * sz ≤ n * sz := Nat.mul_le_mul_right _ hk
  refine ⟨?_, fun hn => ?_⟩
  · rw [List.length_take, List.length_drop, h.1, Nat.min_eq_left]
    rw [Nat.add_mul] at hmul; omega
  · obtain ⟨b, off, rfl, hb, hcell⟩ := h.2 (by omega)
    rw [if_neg (by omega)]
    refine ⟨b, off + k * sz, ?_, hb, fun j u hu => ?_⟩
    · simp only [Option.map_some, Addr.add]
      split <;> simp_all
    · have hu2 : xs[k * sz + j]? = some u := by
        rw [List.getElem?_take] at hu
        split at hu
        · rw [← hu, List.getElem?_drop]
        · cases hu
      rw [Nat.add_assoc]
      exact hcell _ u hu2

theorem Sl.from_ {b off k : Nat} (h : Sl w B 1 (some ⟨b, off, none⟩) n xs) (hk : k ≤ n) : Sl w B 1 (some ⟨b, off + k, none⟩) (n - k) (xs.drop k) := by
  refine ⟨by rw [List.length_drop, h.len]; omega, fun hn => ?_⟩
  obtain ⟨b', off', e, hb, hc⟩ := h.2 (by omega)
  cases e
  exact ⟨b, off + k, rfl, hb, fun j u hu => by rw [Nat.add_assoc]; exact hc _ u (by rw [← hu, List.getElem?_drop])⟩
theorem Sl.sub_ {b off k m : Nat} (h : Sl w B 1 (some ⟨b, off, none⟩) n xs) (hk : k + m ≤ n) : Sl w B 1 (some ⟨b, off + k, none⟩) m ((xs.drop k).take m) := by
  have h1 := h.from_ (k := k) (by omega)
  refine ⟨by rw [List.length_take, h1.len]; omega, fun hn => ?_⟩
  obtain ⟨b', off', e, hb, hc⟩ := h1.2 (by omega)
  cases e
  refine ⟨b, off + k, rfl, hb, fun j u hu => hc _ u ?_⟩
  rw [List.getElem?_take] at hu
  split at hu
  · exact hu
  · cases hu

theorem Sl.of_own {base : Nat} {e : TypeId} {c : Nat} (h : w.ownsRow base e sz (.slice A n c) n xs) : Sl w w.heap.size sz A n xs := by
  refine ⟨h.1, fun hn => ?_⟩
  rcases h.2 with ⟨hv, h0⟩ | ⟨g, cap, cur, hv, hbg, hh, hcap, hm, hs, ht⟩
  · omega
  · injection hv with hA
    have hlt := (h.lt g (by rw [hA]; rfl)).2
    refine ⟨g, 0, hA, hlt, fun j u hu => ?_⟩
    have := h.cells (g := g) (by rw [hA]; rfl) j u hu
    rwa [Addr.add_lit] at this

/-- A slice of integers that came in, as the row's reading gives it. -/
theorem Sl.of_open {k : IntKind} {x : Addr} {len cap : Nat} {zs : List Int} (hl : len ≤ cap) (hz : zs.length = cap)
    (hcell : ∀ i, i < zs.length → w.cell? (x.add i) = some (.int k (zs.getD i 0))) : Sl w w.heap.size 1 (some x) len ((zs.take len).map (Value.int k)) := by
  refine ⟨by rw [List.length_map, List.length_take]; omega, fun hn => ?_⟩
  obtain ⟨b, off, spot⟩ := x
  have h0 := hcell 0 (by omega)
  have hspot : spot = none := by simpa [Addr.add] using World.cell?_spot h0
  subst hspot
  refine ⟨b, off, rfl, by have := World.block_lt_of_cell? w _ h0; simpa [Addr.add] using this, fun j u hu => ?_⟩
  rw [List.getElem?_map] at hu
  obtain ⟨z, h1, rfl⟩ := Option.map_eq_some_iff.1 hu
  rw [List.getElem?_take] at h1
  split at h1
  · have := hcell j (by omega)
    rw [Addr.add_lit] at this
    rw [this, List.getD_eq_getElem?_getD, h1]; rfl
  · cases h1

/-- A row that a literal has just made. -/
theorem Sl.lit (w : World) (cs : Array Value) (t : TypeId) (n : Nat) (h : cs.size = n * sz) : Sl (w.alloc (.cells cs t)) (w.heap.size + 1) sz (some ⟨w.heap.size, 0, none⟩) n cs.toList :=
  ⟨by simpa using h, fun _ => ⟨_, _, rfl, by omega, fun j u hu => by simpa using hu⟩⟩
end

/-! ### Rows of the call's own -/
section
variable {w w' : World} {base : Nat} {e : TypeId} {sz n c : Nat} {A : Option Addr} {xs : List Value}

theorem own_form (h : w.ownsRow base e sz (.slice A n c) n xs) (hn : 0 < n) : ∃ g, A = some ⟨g, 0, none⟩ ∧ base ≤ g ∧ g < w.heap.size ∧ n ≤ c := by
  rcases h.2 with ⟨_, h0⟩ | ⟨g, cap, cur, hv, hbg, hh, hcap, _⟩
  · omega
  · injection hv with hA _ hc
    exact ⟨g, hA, hbg, (h.lt g (by rw [hA]; rfl)).2, by omega⟩

theorem own_cell {g j : Nat} (h : w.ownsRow base e sz (.slice (some ⟨g, 0, none⟩) n c) n xs) (hj : j < n * sz) : ∃ u, w.cell? ⟨g, j, none⟩ = some u := by
  have h1 := h.cellAt j hj
  have h2 := h.1
  rw [List.getElem?_eq_getElem (by omega)] at h1
  exact ⟨_, h1⟩

theorem own_below (h : w.ownsRow base e sz (.slice A n c) n xs) (hb : Below w.heap.size w w') : w'.ownsRow base e sz (.slice A n c) n xs := by
  obtain ⟨h1, h2⟩ := h
  refine ⟨h1, ?_⟩
  rcases h2 with h2 | ⟨g, cap, cur, hv, hg, hh, r⟩
  · exact .inl h2
  · refine .inr ⟨g, cap, cur, hv, hg, ?_, r⟩
    rw [hb.block g ?_]; exact hh
    rcases Nat.lt_or_ge g w.heap.size with hlt | hge
    · exact hlt
    · rw [Array.getElem?_eq_none hge] at hh; cases hh

theorem own_base {base' : Nat} (h : w.ownsRow base e sz (.slice A n c) n xs) (hle : base' ≤ base) : w.ownsRow base' e sz (.slice A n c) n xs := by
  obtain ⟨h1, h2⟩ := h
  refine ⟨h1, ?_⟩
  rcases h2 with h2 | ⟨g, cap, cur, hv, hg, r⟩
  · exact .inl h2
  · exact .inr ⟨g, cap, cur, hv, by omega, r⟩

theorem own_alloc (h : w.ownsRow base e sz (.slice A n c) n xs) (o : Obj) : (w.alloc o).ownsRow base e sz (.slice A n c) n xs := h.alloc o
theorem own_drewN (h : w.ownsRow base e sz (.slice A n c) n xs) (k : Nat) : (w.drewN k).ownsRow base e sz (.slice A n c) n xs := h

theorem own_kept {row : Option Nat} (h : w.ownsRow base e sz (.slice A n c) n xs) (hg : w.grownBy w' row) (hne : ∀ g, A = some ⟨g, 0, none⟩ → some g ≠ row) : w'.ownsRow base e sz (.slice A n c) n xs := by
  refine h.kept hg ?_
  rcases h.2 with ⟨hv, _⟩ | ⟨g, cap, cur, hv, _⟩
  · injection hv with hA; subst hA; exact .inl rfl
  · injection hv with hA; subst hA; exact .inr (hne g rfl)

/-- The frame's slice value of a row of the call's own, after an append. -/
theorem own_slice {v : Value} (h : w.ownsRow base e sz v n xs) : ∃ A c, v = .slice A n c := by
  rcases h.2 with ⟨rfl, rfl⟩ | ⟨g, cap, cur, rfl, _⟩
  · exact ⟨_, _, rfl⟩
  · exact ⟨_, _, rfl⟩
end

section
variable {P : Program} (w : World)

theorem run_app_none (base : Nat) (t ty e : TypeId) (i : TypeInfo) (sz : Nat) (ht : P.underlying t = some (.slice e)) (hi : P.info? e = some i)
    (v : Value) (n : Nat) (xs : List Value) (hown : w.ownsRow base e sz v n xs) (c : Nat) : (Builtin.append_ #[t, t] ty #[v, .slice none 0 c]).run P w = .ok v w := by
  rcases hown.2 with ⟨rfl, rfl⟩ | ⟨g, cap, cur, rfl, _, _, hnc, _⟩
  · simp [Builtin.append_, run_underlying ht, sizeOf, typeInfo, hi, Builtin.lenOf, Builtin.firstCells]
  · simp [Builtin.append_, run_underlying ht, sizeOf, typeInfo, hi, Builtin.lenOf, Builtin.firstCells, hnc, storeCells]

theorem run_app (base : Nat) (t ty e : TypeId) (i : TypeInfo) (z : Value) (sz bytes : Nat) (ht : P.underlying t = some (.slice e)) (hi : P.info? e = some i) (hz : i.zero = some z)
    (hsize : i.size = sz) (hby : i.bytes = bytes) (hzs : z.cells.size = sz) (hsz : 0 < sz)
    (A : Option Addr) (n c : Nat) (xs : List Value) (hown : w.ownsRow base e sz (.slice A n c) n xs)
    (B : Nat) (A2 : Option Addr) (m c2 : Nat) (news : List Value) (hr : Sl w B sz A2 m news) (h1 : ∀ u ∈ news, u.oneCell' = true)
    (h63 : n + m ≤ maxLen) (hbytes : (n + m) * bytes ≤ 140737488355328) (hbase : base ≤ w.heap.size) :
    ∃ A' c' w', (Builtin.append_ #[t, t] ty #[.slice A n c, .slice A2 m c2]).run P w = .ok (.slice A' (n + m) c') w' ∧ w'.ownsRow base e sz (.slice A' (n + m) c') (n + m) (xs ++ news) ∧ w.grownBy w' (A.map Addr.block) ∧
      (A'.map Addr.block = A.map Addr.block ∨ A'.map Addr.block = some w.heap.size) := by
  have hob : ∀ (A : Option Addr) n c, (Value.slice A n c).ownBlock = A.map Addr.block := fun A n c => by cases A <;> rfl
  rcases Nat.eq_zero_or_pos m with h0 | h0
  · subst h0
    have hn : news = [] := List.eq_nil_of_length_eq_zero (by simpa using hr.1)
    subst hn
    rcases A2 with _ | ad
    · exact ⟨A, c, w, by simpa using run_app_none (P := P) w base t ty e i sz ht hi _ n xs hown c2, by simpa using hown, World.grownBy.refl w _, .inl rfl⟩
    · obtain ⟨v', w', hrun, h2, h3, _, h5⟩ := run_append_own_at (P := P) w base t ty e i z sz bytes ht hi hz hsize hby hzs hsz _ n xs hown ad 0 c2 [] (by simp) (by simp) (by simp) h63 hbytes hbase
      obtain ⟨A', c', rfl⟩ := own_slice h2
      simp only [hob] at h3 h5
      exact ⟨A', c', w', hrun, h2, h3, h5⟩
  · obtain ⟨b, off, rfl, _, hc⟩ := hr.2 h0
    obtain ⟨v', w', hrun, h2, h3, _, h5⟩ := run_append_own_at (P := P) w base t ty e i z sz bytes ht hi hz hsize hby hzs hsz _ n xs hown ⟨b, off, none⟩ m c2 news hr.1 (fun j u hu => by rw [Addr.add_lit]; exact hc j u hu) h1 h63 hbytes hbase
    obtain ⟨A', c', rfl⟩ := own_slice h2
    simp only [hob] at h3 h5
    exact ⟨A', c', w', hrun, h2, h3, h5⟩

theorem wp_app {o : Oper} {a : Act} {K : Act → World → Prop} {Q : Exit → Act → World → Prop} (s x : Operand) (t : TypeId)
    (ho : o.op = .call { callee := .builtin .append, args := #[s, x], argTypes := #[t, t] })
    (base : Nat) (e : TypeId) (i : TypeInfo) (z : Value) (sz bytes : Nat) (ht : P.underlying t = some (.slice e)) (hi : P.info? e = some i) (hz : i.zero = some z)
    (hsize : i.size = sz) (hby : i.bytes = bytes) (hzs : z.cells.size = sz) (hsz : 0 < sz)
    (A : Option Addr) (n c : Nat) (xs : List Value) (hs : a.eval s = .slice A n c) (hown : w.ownsRow base e sz (.slice A n c) n xs)
    (B : Nat) (A2 : Option Addr) (m c2 : Nat) (news : List Value) (hx : a.eval x = .slice A2 m c2) (hr : Sl w B sz A2 m news) (h1 : ∀ u ∈ news, u.oneCell' = true)
    (h63 : n + m ≤ maxLen) (hbytes : (n + m) * bytes ≤ 140737488355328) (hbase : base ≤ w.heap.size)
    (h : ∀ A' c' w', w'.ownsRow base e sz (.slice A' (n + m) c') (n + m) (xs ++ news) → w.grownBy w' (A.map Addr.block) → (A'.map Addr.block = A.map Addr.block ∨ A'.map Addr.block = some w.heap.size) → K (a.put o.dst (.slice A' (n + m) c')) w') : o.wp P a w K Q := by
  obtain ⟨A', c', w', hrun, h2, h3, h4⟩ := run_app (P := P) w base t o.type e i z sz bytes ht hi hz hsize hby hzs hsz A n c xs hown B A2 m c2 news hr h1 h63 hbytes hbase
  unfold Oper.wp execOp
  simp only [ho, resolve, invoke, builtin, Sem.run_bind, Sem.run_pure, Result.andThen_ok, List.map_toArray, List.map_cons, List.map_nil, hs, hx, hrun]
  exact h A' c' w' h2 h3 h4

/-- 'append' onto a row of the call's own, from whatever source; the walk's form. -/
theorem wpl_app {ops : Array Oper} {rest : List Oper} {o : Oper} {a : Act} {Q : Exit → Act → World → Prop} (hgd : o.guard = none) (s x : Operand) (t : TypeId)
    (ho : o.op = .call { callee := .builtin .append, args := #[s, x], argTypes := #[t, t] })
    (base : Nat) (e : TypeId) (i : TypeInfo) (z : Value) (sz bytes : Nat) (ht : P.underlying t = some (.slice e)) (hi : P.info? e = some i) (hz : i.zero = some z)
    (hsize : i.size = sz) (hby : i.bytes = bytes) (hzs : z.cells.size = sz) (hsz : 0 < sz)
    (A : Option Addr) (n c : Nat) (xs : List Value) (hs : a.eval s = .slice A n c) (hown : w.ownsRow base e sz (.slice A n c) n xs)
    (B : Nat) (A2 : Option Addr) (m c2 : Nat) (news : List Value) (hx : a.eval x = .slice A2 m c2) (hr : Sl w B sz A2 m news) (h1 : ∀ u ∈ news, u.oneCell' = true)
    (h63 : n + m ≤ maxLen) (hbytes : (n + m) * bytes ≤ 140737488355328) (hbase : base ≤ w.heap.size)
    (h : ∀ A' c' w', w'.ownsRow base e sz (.slice A' (n + m) c') (n + m) (xs ++ news) → w.grownBy w' (A.map Addr.block) → (A'.map Addr.block = A.map Addr.block ∨ A'.map Addr.block = some w.heap.size) → wpList P ops Q rest (a.put o.dst (.slice A' (n + m) c')) w') : wpList P ops Q (o :: rest) a w :=
  wpList_plain hgd fun _ hK => wp_app w s x t ho base e i z sz bytes ht hi hz hsize hby hzs hsz A n c xs hs hown B A2 m c2 news hx hr h1 h63 hbytes hbase fun A' c' w' h2 h3 h4 => hK _ _ (h A' c' w' h2 h3 h4)
end


/-! ### A block known whole -/
/-- Block g is just the cells cs of element type t, none frozen. -/
def Blk (w : World) (g : Nat) (t : TypeId) (cs : List Value) : Prop := w.heap[g]? = some (.cells cs.toArray t (0, 0))

section
variable {w w' : World} {g : Nat} {t : TypeId} {cs : List Value}
theorem Blk.lt (h : Blk w g t cs) : g < w.heap.size := by
  rcases Nat.lt_or_ge g w.heap.size with hlt | hge
  · exact hlt
  · unfold Blk at h; rw [Array.getElem?_eq_none hge] at h; cases h
theorem Blk.cell (h : Blk w g t cs) (i : Nat) : w.cell? ⟨g, i, none⟩ = cs[i]? := by
  rw [cell_of_row w g i _ t (0, 0) h]; simp
theorem Blk.at_ (h : Blk w g t cs) {i : Nat} {v : Value} (hv : cs[i]? = some v) : w.cell? ⟨g, i, none⟩ = some v := (h.cell i).trans hv
theorem Blk.frozen (h : Blk w g t cs) (i : Nat) : w.frozen? ⟨g, i, none⟩ = false := frozen_of_row w g i _ t h
theorem Blk.drewN (h : Blk w g t cs) (n : Nat) : Blk (w.drewN n) g t cs := h
theorem Blk.drew (h : Blk w g t cs) : Blk w.drew g t cs := h
theorem Blk.alloc (h : Blk w g t cs) (o : Obj) : Blk (w.alloc o) g t cs := (Below.heap_alloc w o g h.lt).trans h
theorem Blk.set_ (h : Blk w g t cs) (i : Nat) (u : Value) : Blk (w.setCell ⟨g, i, none⟩ u) g t (cs.set i u) := by
  have := heap_setCell_same w g i cs.toArray t u h
  unfold Blk
  rw [this]; simp
theorem Blk.far (h : Blk w g t cs) {p : Addr} (hp : g ≠ p.block) (u : Value) : Blk (w.setCell p u) g t cs := (Below.heap_setCell w p u g hp).trans h
theorem Blk.below {B : Nat} (h : Blk w g t cs) (hb : Below B w w') (hg : g < B) : Blk w' g t cs := (hb.block g hg).trans h
theorem Blk.call (h : Blk w g t cs) (hb : Below w.heap.size w w') : Blk w' g t cs := h.below hb h.lt
theorem Blk.grown {row : Option Nat} (h : Blk w g t cs) (hb : w.grownBy w' row) (hg : some g ≠ row) : Blk w' g t cs := (hb.block g h.lt hg).trans h
theorem Blk.sl {sz n : Nat} (h : Blk w g t cs) (hn : cs.length = n * sz) : Sl w w.heap.size sz (some ⟨g, 0, none⟩) n cs :=
  ⟨hn, fun _ => ⟨g, 0, rfl, h.lt, fun j u hu => by rw [Nat.zero_add]; exact h.at_ hu⟩⟩
end

theorem grown_set (w : World) (g i : Nat) (v : Value) : w.grownBy (w.setCell ⟨g, i, none⟩ v) (some g) :=
  ⟨rfl, rfl, rfl, by simp [World.setCell], fun k _ hk => Below.heap_setCell w _ v k (fun e => hk (by simp [e]))⟩
theorem grown_trans {w w2 w3 : World} {row : Option Nat} (h : w.grownBy w2 row) (k : w2.grownBy w3 row) : w.grownBy w3 row :=
  ⟨k.os.trans h.os, k.tape.trans h.tape, k.output.trans h.output, Nat.le_trans h.size k.size, fun i hi hne => (k.block i (Nat.lt_of_lt_of_le hi h.size) hne).trans (h.block i hi hne)⟩
theorem blk_set8 {w : World} {g : Nat} {t : TypeId} {a0 a1 a2 a3 a4 a5 a6 a7 b0 b1 b2 b3 b4 b5 b6 b7 : Value} (h : Blk w g t [a0, a1, a2, a3, a4, a5, a6, a7]) :
    Blk ((((((((w.setCell ⟨g, 0, none⟩ b0).setCell ⟨g, 1, none⟩ b1).setCell ⟨g, 2, none⟩ b2).setCell ⟨g, 3, none⟩ b3).setCell ⟨g, 4, none⟩ b4).setCell ⟨g, 5, none⟩ b5).setCell ⟨g, 6, none⟩ b6).setCell ⟨g, 7, none⟩ b7) g t [b0, b1, b2, b3, b4, b5, b6, b7] :=
  (((((((h.set_ 0 b0).set_ 1 b1).set_ 2 b2).set_ 3 b3).set_ 4 b4).set_ 5 b5).set_ 6 b6).set_ 7 b7
theorem grown_set8 (w : World) (g : Nat) (b0 b1 b2 b3 b4 b5 b6 b7 : Value) :
    w.grownBy ((((((((w.setCell ⟨g, 0, none⟩ b0).setCell ⟨g, 1, none⟩ b1).setCell ⟨g, 2, none⟩ b2).setCell ⟨g, 3, none⟩ b3).setCell ⟨g, 4, none⟩ b4).setCell ⟨g, 5, none⟩ b5).setCell ⟨g, 6, none⟩ b6).setCell ⟨g, 7, none⟩ b7) (some g) :=
  grown_trans (grown_trans (grown_trans (grown_trans (grown_trans (grown_trans (grown_trans (grown_set _ _ _ _) (grown_set _ _ _ _)) (grown_set _ _ _ _)) (grown_set _ _ _ _)) (grown_set _ _ _ _)) (grown_set _ _ _ _)) (grown_set _ _ _ _)) (grown_set _ _ _ _)

/-! ### A world that differs by draws alone -/
def Drawn (w w2 : World) : Prop := ∃ n, w2 = w.drewN n
section
variable {w w2 w3 : World}
theorem Drawn.refl (w : World) : Drawn w w := ⟨0, rfl⟩
theorem Drawn.n (w : World) (n : Nat) : Drawn w (w.drewN n) := ⟨n, rfl⟩
theorem Drawn.one (w : World) : Drawn w w.drew := ⟨1, rfl⟩
theorem Drawn.trans (h : Drawn w w2) (k : Drawn w2 w3) : Drawn w w3 := by
  obtain ⟨n, rfl⟩ := h; obtain ⟨m, rfl⟩ := k; exact ⟨n + m, by rw [World.drewN_drewN]⟩
theorem Drawn.blk {g : Nat} {t : TypeId} {cs : List Value} (h : Drawn w w2) (hb : Blk w g t cs) : Blk w2 g t cs := by obtain ⟨n, rfl⟩ := h; exact hb
theorem Drawn.below {B : Nat} {w0 : World} (h : Drawn w w2) (hb : Below B w0 w) : Below B w0 w2 := by obtain ⟨n, rfl⟩ := h; exact below_dn hb n
theorem Drawn.all (h : Drawn w w2) : Below w.heap.size w w2 := h.below (Below.refl _ _)
theorem Drawn.cell (h : Drawn w w2) (a : Addr) : w2.cell? a = w.cell? a := by obtain ⟨n, rfl⟩ := h; rfl
theorem Drawn.sl {B sz n : Nat} {A : Option Addr} {xs : List Value} (h : Drawn w w2) (hs : Sl w B sz A n xs) : Sl w2 B sz A n xs := by obtain ⟨m, rfl⟩ := h; exact hs
theorem Drawn.own {base : Nat} {e : TypeId} {sz n : Nat} {v : Value} {xs : List Value} (h : Drawn w w2) (hs : w.ownsRow base e sz v n xs) : w2.ownsRow base e sz v n xs := by obtain ⟨m, rfl⟩ := h; exact hs
theorem Drawn.size (h : Drawn w w2) : w2.heap.size = w.heap.size := by obtain ⟨m, rfl⟩ := h; rfl
end

theorem grown_undrew {w w2 : World} {n : Nat} {row : Option Nat} (h : (w.drewN n).grownBy w2 row) : w.grownBy w2 row := ⟨h.os, h.tape, h.output, h.size, h.block⟩

/-- A region that draws its order: reads and calls that leave the world, then a tail in one order. -/
theorem wp_tail {P : Program} {id : Nat} {Q : Exit → Act → World → Prop} {a : Act} {w : World} {l : List Oper} (n : Nat) (hm : P.follows .mixedOrders = true) (hB : Region.lexTailB .any l.toArray n = true)
    (h : ∀ w2, Drawn w w2 → wpStill P l.toArray w2 (fun a' => wpList P l.toArray Q (l.drop n) a' w2) (l.take n) a) : (Code.region id l.toArray true).wp P Q a w :=
  wp_region_still_tail n hm hB (h _ ⟨1, rfl⟩)

/-- Only the way that goes on is asked. -/
def NormalOnly (Q : Exit → Act → World → Prop) : Exit → Act → World → Prop
  | .normal, a, w => Q .normal a w
  | _, _, _ => False
theorem wp_normal {P : Program} {c : Code} {Q : Exit → Act → World → Prop} {a : Act} {w : World} (h : c.wp P (NormalOnly Q) a w) : c.wp P Q a w :=
  Code.wp_mono (fun e a w h => by cases e <;> first | exact h | exact h.elim) h

/-! ### Whole arrays and structs: laid, read, stored -/
section
variable {P : Program} {w : World} {ops : Array Oper} {rest : List Oper} {o : Oper} {a : Act} {Q : Exit → Act → World → Prop}

theorem wpl_alloc (hgd : o.guard = none) {T : TypeId} (ho : o.op = .alloc T) {zs : List Value} (hz : (P.info? T).map (·.zero) = some (some (.agg zs.toArray)))
    (h : ∀ w', Blk w' w.heap.size T zs → Below w.heap.size w w' → w'.heap.size = w.heap.size + 1 → wpList P ops Q rest (a.put o.dst (.pointer (some ⟨w.heap.size, 0, none⟩))) w') : wpList P ops Q (o :: rest) a w := by
  refine wpList_plain hgd fun K hK => ?_
  obtain ⟨i, hi, hzz⟩ := Option.map_eq_some_iff.1 hz
  have hrun : (Instr.alloc T true (.tuple #[])).run P w = .ok (.pointer (some ⟨w.heap.size, 0, none⟩)) (w.alloc (.cells zs.toArray T)) := by
    simp [Instr.alloc, zeroValue, typeInfo, hi, hzz, newVar, newRow, Value.cells]
  unfold Oper.wp execOp
  simp only [ho, Sem.run_bind, hrun, Result.andThen_ok, Sem.run_pure]
  exact hK _ _ (h _ (heap_alloc_new _ _) ((Below.refl _ _).alloc (Nat.le_refl _) _) (by simp))

theorem wpl_box (hgd : o.guard = none) {T : TypeId} {x : Operand} (ho : o.op = .box T x) {cs : List Value} (hx : a.eval x = .agg cs.toArray)
    (h : ∀ w', Blk w' w.heap.size T cs → Below w.heap.size w w' → w'.heap.size = w.heap.size + 1 → wpList P ops Q rest (a.put o.dst (.pointer (some ⟨w.heap.size, 0, none⟩))) w') : wpList P ops Q (o :: rest) a w := by
  refine wpList_plain hgd fun K hK => ?_
  have hrun : (Instr.box T (.agg cs.toArray)).run P w = .ok (.pointer (some ⟨w.heap.size, 0, none⟩)) (w.alloc (.cells cs.toArray T)) := by
    simp [Instr.box, newVar, newRow, Value.cells]
  unfold Oper.wp execOp
  simp only [ho, hx, Sem.run_bind, hrun, Result.andThen_ok, Sem.run_pure]
  exact hK _ _ (h _ (heap_alloc_new _ _) ((Below.refl _ _).alloc (Nat.le_refl _) _) (by simp))

/-- The type's row: an array or struct of n cells. -/
def RowT (P : Program) (T : TypeId) (n : Nat) : Prop := ∃ d, P.underlying T = some d ∧ (match d with | .struct _ | .array _ _ => true | _ => false) = true ∧ (P.info? T).map (·.size) = some n

theorem wpl_loadb (hgd : o.guard = none) {T : TypeId} {x : Operand} (ho : o.op = .load T x) {n : Nat} (hT : RowT P T n) {g : Nat} {t : TypeId} {cs : List Value} (hb : Blk w g t cs) (hx : a.eval x = .pointer (some ⟨g, 0, none⟩)) (hn : cs.length = n)
    (h : wpList P ops Q rest (a.put o.dst (.agg cs.toArray)) w) : wpList P ops Q (o :: rest) a w := by
  obtain ⟨d, hu, hd, hi⟩ := hT
  exact wpList_load_row hgd T x ho g hx t _ (0, 0) d hb hu (by revert hd; cases d <;> simp) (by rw [hi]; simp [hn]) h

/-- A whole array or struct out of the middle of a block. -/
theorem wpl_loadm (hgd : o.guard = none) {T : TypeId} {x : Operand} (ho : o.op = .load T x) {n : Nat} (hT : RowT P T n) {b off : Nat} {cs : List Value} (hc : ∀ j u, cs[j]? = some u → w.cell? ⟨b, off + j, none⟩ = some u) (hx : a.eval x = .pointer (some ⟨b, off, none⟩)) (hn : cs.length = n)
    (h : wpList P ops Q rest (a.put o.dst (.agg cs.toArray)) w) : wpList P ops Q (o :: rest) a w := by
  obtain ⟨d, hu, hd, hi⟩ := hT
  exact wpList_load_mid hgd T x ho b off hx cs d hc hu (by cases d <;> simp_all) (by rw [hi, hn]) h

theorem run_storeb {g : Nat} {T t : TypeId} {n : Nat} (hT : RowT P T n) {old cs : List Value} (hb : Blk w g t old) (ho : old.length = n) (hn : cs.length = n) (h1 : ∀ u ∈ cs, u.oneCell' = true) :
    (Instr.storeAt T (.pointer (some ⟨g, 0, none⟩)) (.agg cs.toArray)).run P w = .ok () (w.setRow g cs.toArray) := by
  obtain ⟨d, hu, hd, hi⟩ := hT
  have := run_storeVar_row (P := P) w g t T old.toArray cs.toArray hb (by rw [hi]; simp [hn]) (by simp [ho, hn]) (Array.all_eq_true_iff_forall_mem.2 (fun v hv => h1 v (by simpa using hv)))
  simp only [Instr.storeAt, Instr.sureAddr, Sem.run_bind, Sem.run_pure, Result.andThen_ok, this]

theorem wpl_storeb (hgd : o.guard = none) {T : TypeId} {x y : Operand} (ho : o.op = .store T x y) {n : Nat} (hT : RowT P T n) {g : Nat} {t : TypeId} {old cs : List Value} (hb : Blk w g t old) (hx : a.eval x = .pointer (some ⟨g, 0, none⟩)) (hy : a.eval y = .agg cs.toArray)
    (hol : old.length = n) (hn : cs.length = n) (h1 : ∀ u ∈ cs, u.oneCell' = true)
    (h : ∀ w', Blk w' g t cs → w.grownBy w' (some g) → w'.heap.size = w.heap.size → wpList P ops Q rest (a.put o.dst undef) w') : wpList P ops Q (o :: rest) a w := by
  refine wpList_plain hgd fun K hK => ?_
  unfold Oper.wp execOp
  simp only [ho, hx, hy, Sem.run_bind, run_storeb hT hb hol hn h1, Result.andThen_ok, Sem.run_pure]
  refine hK _ _ (h _ (setRow_heap w g _ _ t _ hb) ⟨rfl, rfl, rfl, by simp, fun k _ hk => setRow_other w g k _ (fun e => hk (by simp [e]))⟩ (by simp))

theorem run_index_agg {T e : TypeId} {n : Nat} {cs : List Value} {v : Value} {k : Nat} (hu : P.underlying T = some (.array n e)) (hn : cs.length = n) (he : (P.info? e).map (·.size) = some 1) (hne : (match P.underlying e with | some (.struct _) | some (.array _ _) => false | some _ => true | none => false) = true) (hv : cs[k]? = some v) (w : World) :
    (Instr.index T (.agg cs.toArray) (.int .i64 (k : Int))).run P w = .ok v w := by
  have hk : k < n := by rw [← hn]; exact (List.getElem?_eq_some_iff.1 hv).1
  obtain ⟨i, hi, hs⟩ := Option.map_eq_some_iff.1 he
  have hagg : (isAgg e).run P w = .ok false w := by
    unfold isAgg
    cases hd : P.underlying e with
    | none => rw [hd] at hne; simp at hne
    | some d =>
      rw [hd] at hne
      rw [Sem.run_bind, run_underlying hd w]
      cases d <;> simp_all
  simp [Instr.index, asIntOf, run_underlying hu, hk, sizeOf, typeInfo, hi, hs, part, Sem.run_bind, hagg, hv]

theorem ret_cell {fn : Func} {p : Tmp} {ty : TypeId} (h : fn.results = #[.cell p ty]) {n : Nat} (hT : RowT P ty n) {g : Nat} {t : TypeId} {cs : List Value} (hb : Blk w g t cs) (hp : a.tmps.getD p undef = .pointer (some ⟨g, 0, none⟩)) (hn : cs.length = n) (hd : a.defers = [])
    {R : Ending → World → Prop} (hR : R (.returned (.agg cs.toArray)) w) : bodyPost P fn R .ret a w := by
  obtain ⟨d, hu, hdd, hi⟩ := hT
  exact bodyPost_ret (results_cell_row h a.tmps w g t _ (0, 0) d hp hb hu (by revert hdd; cases d <;> simp) (by rw [hi]; simp [hn])) hd hR
end

theorem grown_of_below {w w' : World} (h : Below w.heap.size w w') (row : Option Nat) : w.grownBy w' row := ⟨h.os, h.tape, h.output, h.size, fun k hk _ => h.block k hk⟩

/-! ### The element type's row of the table, and the laws with it -/
structure ElemT (P : Program) (t e : TypeId) (sz bytes : Nat) : Prop where
  ht : P.underlying t = some (.slice e)
  hi : ∃ i z, P.info? e = some i ∧ i.zero = some z ∧ i.size = sz ∧ i.bytes = bytes ∧ z.cells.size = sz ∧ 0 < sz

theorem elemT {P : Program} {t e : TypeId} {z : Value} {sz bytes : Nat} (ht : P.underlying t = some (.slice e))
    (h : (P.info? e).map (fun i => (i.zero, i.size, i.bytes)) = some (some z, sz, bytes)) (hz : z.cells.size = sz) (h0 : 0 < sz) : ElemT P t e sz bytes := by
  obtain ⟨i, hi, h1, h2, h3⟩ := info_parts h
  exact ⟨ht, i, z, hi, h1, h2, h3, hz, h0⟩

/-- 'append(out, src...)'. -/
theorem wpl_apps {P : Program} {w : World} {ops : Array Oper} {rest : List Oper} {o : Oper} {a : Act} {Q : Exit → Act → World → Prop} (hgd : o.guard = none) {s x : Operand} {t : TypeId}
    (ho : o.op = .call { callee := .builtin .append, args := #[s, x], argTypes := #[t, t] })
    {base : Nat} {e : TypeId} {sz bytes : Nat} (HE : ElemT P t e sz bytes)
    {A : Option Addr} {n c : Nat} {xs : List Value} (hown : w.ownsRow base e sz (.slice A n c) n xs) (hs : a.eval s = .slice A n c)
    {B : Nat} {A2 : Option Addr} {m c2 : Nat} {news : List Value} (hr : Sl w B sz A2 m news) (hx : a.eval x = .slice A2 m c2) (h1 : ∀ u ∈ news, u.oneCell' = true)
    (h63 : (n + m) * bytes ≤ 140737488355328) (hmx : n + m ≤ 140737488355328) (hbase : base ≤ w.heap.size)
    (h : ∀ A' c' w', w'.ownsRow base e sz (.slice A' (n + m) c') (n + m) (xs ++ news) → w.grownBy w' (A.map Addr.block) → (A'.map Addr.block = A.map Addr.block ∨ A'.map Addr.block = some w.heap.size) → wpList P ops Q rest (a.put o.dst (.slice A' (n + m) c')) w') : wpList P ops Q (o :: rest) a w := by
  obtain ⟨i, z, hi, hz, hsz, hby, hzs, h0⟩ := HE.hi
  exact wpl_app w hgd s x t ho base e i z sz bytes HE.ht hi hz hsz hby hzs h0 A n c xs hs hown B A2 m c2 news hx hr h1 (by simp only [maxLen]; omega) h63 hbase h

/-- 'append(out, x)', 'append(out, x, y)': the new elements stand in a row that was just laid. -/
theorem wpl_app1 {P : Program} {w : World} {ops : Array Oper} {rest : List Oper} {o : Oper} {a : Act} {Q : Exit → Act → World → Prop} (hgd : o.guard = none) {s x : Operand} {t : TypeId}
    (ho : o.op = .call { callee := .builtin .append, args := #[s, x], argTypes := #[t, t] })
    {base : Nat} {e : TypeId} {sz bytes : Nat} (HE : ElemT P t e sz bytes)
    {A : Option Addr} {n c : Nat} {xs : List Value} (hown : w.ownsRow base e sz (.slice A n c) n xs) (hs : a.eval s = .slice A n c)
    {m : Nat} {cs : Array Value} (hx : a.eval x = .slice (some ⟨w.heap.size, 0, none⟩) m m) (hcs : cs.size = m * sz) (h1 : ∀ u ∈ cs.toList, u.oneCell' = true)
    (h63 : (n + m) * bytes ≤ 140737488355328) (hmx : n + m ≤ 140737488355328) (hbase : base ≤ w.heap.size)
    (h : ∀ A' c' w', w'.ownsRow base e sz (.slice A' (n + m) c') (n + m) (xs ++ cs.toList) → w.grownBy w' (A.map Addr.block) → (A'.map Addr.block = A.map Addr.block ∨ A'.map Addr.block = some (w.heap.size + 1)) → wpList P ops Q rest (a.put o.dst (.slice A' (n + m) c')) w') : wpList P ops Q (o :: rest) a (w.alloc (.cells cs e)) := by
  refine wpl_apps hgd ho HE (own_alloc hown (.cells cs e)) hs (Sl.lit w cs e m hcs) hx h1 h63 hmx (by simp; omega) fun A' c' w' h2 h3 h4 => h A' c' w' h2 ?_ ?_
  · have hz : (w.alloc (.cells cs e)).heap.size = w.heap.size + 1 := by simp
    exact ⟨h3.os, h3.tape, h3.output, by have := h3.size; omega, fun k hk hne => (h3.block k (by omega) hne).trans (Below.heap_alloc w _ k hk)⟩
  · simpa using h4

/-- 'make([]T, n)'. -/
theorem wpl_make {P : Program} {w : World} {ops : Array Oper} {rest : List Oper} {o : Oper} {a : Act} {Q : Exit → Act → World → Prop} (hgd : o.guard = none) {l c : Operand} {t : TypeId} (ho : o.op = Op.makeSlice t l c)
    (base : Nat) {e : TypeId} {sz bytes : Nat} (HE : ElemT P t e sz bytes) {kl kc : IntKind} {n : Nat} (hl : a.eval l = .int kl n) (hc : a.eval c = .int kc n)
    (h63 : bytes * n ≤ 281474976710656) (hmx : n ≤ 281474976710656) (hbase : base ≤ w.heap.size)
    (h : ∀ w' xs, w'.ownsRow base e sz (.slice (some ⟨w.heap.size, 0, none⟩) n n) n xs → w.grownBy w' none → wpList P ops Q rest (a.put o.dst (.slice (some ⟨w.heap.size, 0, none⟩) n n)) w') : wpList P ops Q (o :: rest) a w := by
  obtain ⟨i, z, hi, hz, hsz, hby, hzs, h0⟩ := HE.hi
  exact wpList_make_full w hgd l c t ho base e i z sz HE.ht hi hz hsz kl kc n n n hl hc rfl rfl (by rw [hby]; exact h63) (by simp only [maxLen]; omega) hbase fun w' h1 h2 => h w' _ h1 h2

/-- What an append or a make leaves of all that lies below. -/
theorem below_grown {B : Nat} {w0 w w' : World} {A : Option Addr} (h : Below B w0 w) (hg : w.grownBy w' (A.map Addr.block)) (hB : B ≤ w.heap.size) (hr : ∀ g, A.map Addr.block = some g → B ≤ g) : Below B w0 w' :=
  h.grown hg hB hr

theorem own_from {w : World} {base : Nat} {e : TypeId} {sz n c : Nat} {A : Option Addr} {xs : List Value} (h : w.ownsRow base e sz (.slice A n c) n xs) : ∀ g, A.map Addr.block = some g → base ≤ g := by
  rcases h.2 with ⟨hv, _⟩ | ⟨g, cap, cur, hv, hb, _⟩
  · injection hv with hA; subst hA; intro g hg; cases hg
  · injection hv with hA; subst hA; intro g' hg; cases hg; exact hb

theorem ints_one (k : IntKind) (zs : List Int) : ∀ u ∈ zs.map (Value.int k), u.oneCell' = true := ints_oneCell k zs

end Go.Proofs.Ytofhohofaedokaa

/- How many cells the small types have. -/
namespace Go.Proofs.Ytofhohofaedokaa
open Go.RowKit
theorem cells_u8 : Try.prog.cellsOf 5 = 1 := by kernel_rfl
theorem cells_u64 : Try.prog.cellsOf 29 = 1 := by kernel_rfl
theorem cells_id : Try.prog.cellsOf 28 = 32 := by kernel_rfl
theorem cells_int : Try.prog.cellsOf 3 = 1 := by kernel_rfl
theorem cells_point : Try.prog.cellsOf 83 = 33 := by kernel_rfl

theorem cells_su8 : Try.prog.cellsOf 70 = 1 := by kernel_rfl
theorem row_point : RowT Try.prog 83 33 := ⟨_, Try.underlying83, by kernel_rfl, by kernel_rfl⟩
theorem row_aid : RowT Try.prog 28 32 := ⟨_, Try.underlying28, by kernel_rfl, by kernel_rfl⟩
end Go.Proofs.Ytofhohofaedokaa

/- Floats as numbers: how two words of 64 bits compare, and the order by key; no program in sight. -/
namespace Go.Proofs.Ytofhohofaedokaa
open Ieee
set_option linter.unusedVariables false

/-- The magnitude of a rung, in units of the least place. -/
def V (r : Nat) : Nat := if r < 2^52 then r else (2^52 + r % 2^52) * 2 ^ (r / 2^52 - 1)

theorem V_step (r : Nat) : V r < V (r + 1) := by
  unfold V
  by_cases h : r + 1 < 2^52
  · rw [if_pos h, if_pos (by omega)]; omega
  · by_cases h2 : r < 2^52
    · obtain rfl : r = 2^52 - 1 := by omega
      decide
    · rw [if_neg h, if_neg h2]
      by_cases h3 : (r + 1) % 2^52 = 0
      · have e1 : (r + 1) / 2^52 = r / 2^52 + 1 := by omega
        have e2 : r % 2^52 = 2^52 - 1 := by omega
        rw [h3, e1, e2, show r / 2^52 + 1 - 1 = (r / 2^52 - 1) + 1 by omega, Nat.pow_succ (m := r / 2^52 - 1)]
        have hp : 0 < 2 ^ (r / 2^52 - 1) := Nat.pow_pos (by omega)
        generalize 2 ^ (r / 2^52 - 1) = p at *
        clear e1 e2 h3 h h2
        omega
      · have e1 : (r + 1) / 2^52 = r / 2^52 := by omega
        have e2 : (r + 1) % 2^52 = r % 2^52 + 1 := by omega
        rw [e1, e2]
        exact Nat.mul_lt_mul_of_pos_right (by omega) (Nat.pow_pos (by omega))

theorem V_lt {r s : Nat} (h : r < s) : V r < V s := by
  induction s with
  | zero => omega
  | succ s ih =>
    rcases Nat.lt_or_ge r s with h1 | h1
    · exact Nat.lt_trans (ih h1) (V_step s)
    · obtain rfl : r = s := by omega
      exact V_step r
theorem V_le {r s : Nat} (h : r ≤ s) : V r ≤ V s := by
  rcases Nat.lt_or_ge r s with h1 | h1
  · exact Nat.le_of_lt (V_lt h1)
  · obtain rfl : r = s := by omega
    exact Nat.le_refl _
theorem V_inj {r s : Nat} (h : V r = V s) : r = s := by
  rcases Nat.lt_trichotomy r s with h1 | h1 | h1
  · have := V_lt h1; omega
  · exact h1
  · have := V_lt h1; omega

/-- A word's rung. -/
def rung (x : Nat) : Nat := x % 2^63
def inf : Nat := 2047 * 2^52
def nanB (x : Nat) : Bool := decide (inf < rung x)
def negB (x : Nat) : Bool := decide (2^63 ≤ x)
/-- A word's value, signed, in units of the least place; infinities stand beyond all numbers. -/
def sv (x : Nat) : Int := if negB x then -(V (rung x) : Int) else (V (rung x) : Int)

theorem signW : double.signWeight = 2^63 := rfl
theorem binadeW : double.binade = 2^52 := rfl
theorem infW : double.infRung = inf := rfl

theorem neg_of {x : Nat} (h : x < 2^64) : (x / 2^63 % 2 == 1) = negB x := by
  unfold negB
  by_cases hx : 2^63 ≤ x
  · have : x / 2^63 = 1 := by omega
    rw [this]; simp [hx]
  · have : x / 2^63 = 0 := by omega
    rw [this]; simp [hx]

/-- What a word reads as. -/
inductive RdF (x : Nat) : Datum → Prop where
  | num (m : Nat) (k : Nat) (hr : rung x < inf) (hv : m * 2 ^ k = V (rung x)) : RdF x (.number (negB x) m (double.leastPlace + (k : Nat)))
  | inf (hr : rung x = inf) : RdF x (.infinity (negB x))
  | nan (hr : inf < rung x) (t : Nat) : RdF x (.nan (negB x) t)

theorem rd (x : Nat) (h : x < 2^64) : RdF x (double.read x) := by
  unfold Format.read
  rw [signW, binadeW, infW, neg_of h]
  show RdF x (if rung x < 2^52 then _ else _)
  by_cases h1 : rung x < 2^52
  · rw [if_pos h1]
    have := RdF.num (x := x) (rung x) 0 (by unfold inf; omega) (by unfold V; rw [if_pos h1]; omega)
    rwa [show ((0 : Nat) : Int) = 0 from rfl, Int.add_zero] at this
  · rw [if_neg h1]
    show RdF x (if rung x < inf then _ else _)
    by_cases h2 : rung x < inf
    · rw [if_pos h2]
      exact RdF.num (x := x) (2^52 + rung x % 2^52) (rung x / 2^52 - 1) h2 (by unfold V; rw [if_neg h1])
    · rw [if_neg h2]
      show RdF x (if rung x = inf then _ else _)
      by_cases h3 : rung x = inf
      · rw [if_pos h3]; exact RdF.inf h3
      · rw [if_neg h3]; exact RdF.nan (by omega) _

theorem signed_scale (s : Bool) (m i b : Nat) (h : b ≤ i) : signed s m (i - b) * 2 ^ b = signed s (m <<< i) 0 := by
  unfold signed
  have : m <<< (i - b) * 2 ^ b = m <<< i := by
    rw [Nat.shiftLeft_eq, Nat.shiftLeft_eq, Nat.mul_assoc, ← Nat.pow_add, show i - b + b = i by omega]
  cases s
  · simp only [Bool.false_eq_true, if_false, Nat.shiftLeft_zero]; rw [← this]; simp
  · simp only [if_true, Nat.shiftLeft_zero]; rw [← this]; simp [Int.neg_mul]

theorem cmp_scale (a b : Int) (k : Nat) : compare (a * 2 ^ k) (b * 2 ^ k) = compare a b := by
  have hp : (0 : Int) < 2 ^ k := Int.pow_pos (by omega)
  simp only [compare, compareOfLessAndEq]
  have h1 : a * 2 ^ k < b * 2 ^ k ↔ a < b := ⟨fun h => Int.lt_of_mul_lt_mul_right h (Int.le_of_lt hp), fun h => Int.mul_lt_mul_of_pos_right h hp⟩
  have h2 : a * 2 ^ k = b * 2 ^ k ↔ a = b := ⟨fun h => Int.eq_of_mul_eq_mul_right (by omega) h, fun h => by rw [h]⟩
  simp [h1, h2]

theorem sv_signed (x m k : Nat) (hv : m * 2 ^ k = V (rung x)) : signed (negB x) (m <<< k) 0 = sv x := by
  unfold signed sv
  rw [Nat.shiftLeft_zero, Nat.shiftLeft_eq, hv]

theorem sv_inf {x : Nat} (h : rung x = inf) : sv x = if negB x then -(V inf : Int) else (V inf : Int) := by unfold sv; rw [h]
theorem sv_fin {x : Nat} (h : rung x < inf) : -(V inf : Int) < sv x ∧ sv x < V inf := by
  have := V_lt h
  unfold sv
  generalize V inf = c at *
  split <;> omega

theorem cmp_lt {a b : Int} (h : a < b) : compare a b = .lt := by simp [compare, compareOfLessAndEq, h]
theorem cmp_gt {a b : Int} (h : b < a) : compare a b = .gt := by
  have h1 : ¬ a < b := by omega
  have h2 : ¬ a = b := by omega
  simp [compare, compareOfLessAndEq, h1, h2]
theorem cmp_eq {a b : Int} (h : a = b) : compare a b = .eq := by simp [compare, compareOfLessAndEq, h]

/-- How two words compare: by their values, where neither is a NaN. -/
theorem order_eq {x y : Nat} (hx : x < 2^64) (hy : y < 2^64) :
    double.order x y = if nanB x || nanB y then none else some (compare (sv x) (sv y)) := by
  have h1 := rd x hx
  have h2 := rd y hy
  unfold Format.order
  generalize double.read x = dx at *
  generalize double.read y = dy at *
  have hpos : (0 : Int) < V inf := by
    have : V 0 < V inf := V_lt (by unfold inf; omega)
    omega
  cases h1 with
  | nan hr t =>
    have : nanB x = true := by simp [nanB, hr]
    rw [this]; rfl
  | inf hr =>
    have e1 : nanB x = false := by simp [nanB, hr]
    have e2 := sv_inf hr
    cases h2 with
    | nan hr2 t =>
      have : nanB y = true := by simp [nanB, hr2]
      rw [this, e1]; rfl
    | inf hr2 =>
      have e3 : nanB y = false := by simp [nanB, hr2]
      have e4 := sv_inf hr2
      rw [e1, e3, e2, e4]
      generalize V inf = c at *
      show some (compare (negB y).toNat (negB x).toNat) = some _
      cases negB x <;> cases negB y
      · simp
      · simp only [Bool.false_eq_true, if_false, if_true]; rw [cmp_gt (by omega)]; rfl
      · simp only [Bool.false_eq_true, if_false, if_true]; rw [cmp_lt (by omega)]; rfl
      · simp
    | num m k hr2 hv =>
      have e3 : nanB y = false := by simp [nanB]; omega
      have e4 := sv_fin hr2
      rw [e1, e3, e2]
      generalize sv y = s at *
      generalize V inf = c at *
      show some (if negB x then Ordering.lt else .gt) = some _
      cases negB x
      · simp only [Bool.false_eq_true, if_false]; rw [cmp_gt (by omega)]
      · simp only [if_true]; rw [cmp_lt (by omega)]
  | num m k hr hv =>
    have e1 : nanB x = false := by simp [nanB]; omega
    have e2 := sv_fin hr
    cases h2 with
    | nan hr2 t =>
      have : nanB y = true := by simp [nanB, hr2]
      rw [this, e1]; rfl
    | inf hr2 =>
      have e3 : nanB y = false := by simp [nanB, hr2]
      have e4 := sv_inf hr2
      rw [e1, e3, e4]
      generalize sv x = s at *
      generalize V inf = c at *
      show some (if negB y then Ordering.gt else .lt) = some _
      cases negB y
      · simp only [Bool.false_eq_true, if_false]; rw [cmp_lt (by omega)]
      · simp only [if_true]; rw [cmp_gt (by omega)]
    | num n j hr2 hv2 =>
      have e3 : nanB y = false := by simp [nanB]; omega
      rw [e1, e3]
      show some (compare (signed (negB x) m (double.leastPlace + (k : Int) - min (double.leastPlace + (k : Int)) (double.leastPlace + (j : Int))).toNat) (signed (negB y) n (double.leastPlace + (j : Int) - min (double.leastPlace + (k : Int)) (double.leastPlace + (j : Int))).toNat)) = some _
      congr 1
      have a1 : (double.leastPlace + (k : Int) - min (double.leastPlace + (k : Int)) (double.leastPlace + (j : Int))).toNat = k - min k j := by omega
      have a2 : (double.leastPlace + (j : Int) - min (double.leastPlace + (k : Int)) (double.leastPlace + (j : Int))).toNat = j - min k j := by omega
      rw [a1, a2, ← cmp_scale _ _ (min k j), signed_scale _ _ _ _ (by omega), signed_scale _ _ _ _ (by omega), sv_signed _ _ _ hv, sv_signed _ _ _ hv2]

theorem V_iff {r s : Nat} : V r < V s ↔ r < s := by
  refine ⟨fun h => ?_, V_lt⟩
  rcases Nat.lt_or_ge r s with h1 | h1
  · exact h1
  · have := V_le h1; omega

/-! ### What Go's tests on floats say -/
def ltF (x y : Nat) : Bool := !(nanB x || nanB y) && decide (sv x < sv y)
def eqF (x y : Nat) : Bool := !(nanB x || nanB y) && decide (sv x = sv y)

section
variable (x y : Nat) (hx : x < 2^64) (hy : y < 2^64)
include hx hy
theorem order_f64 : FloatKind.f64.format.order x y = if nanB x || nanB y then none else some (compare (sv x) (sv y)) := order_eq hx hy
theorem ord_lt : (FloatKind.f64.format.order x y == some .lt) = ltF x y := by
  rw [order_f64 x y hx hy]; unfold ltF
  cases nanB x || nanB y
  · simp only [Bool.false_eq_true, if_false]
    rcases Int.lt_trichotomy (sv x) (sv y) with h | h | h
    · rw [cmp_lt h]; simp [h]
    · rw [cmp_eq h]; simp [h]
    · rw [cmp_gt h]; simp; omega
  · simp
theorem ord_gt : (FloatKind.f64.format.order x y == some .gt) = ltF y x := by
  rw [order_f64 x y hx hy]; unfold ltF
  rw [Bool.or_comm]
  cases nanB y || nanB x
  · simp only [Bool.false_eq_true, if_false]
    rcases Int.lt_trichotomy (sv x) (sv y) with h | h | h
    · rw [cmp_lt h]; simp; omega
    · rw [cmp_eq h]; simp [h]
    · rw [cmp_gt h]; simp [h]
  · simp
theorem ord_eq : (FloatKind.f64.format.order x y == some .eq) = eqF x y := by
  rw [order_f64 x y hx hy]; unfold eqF
  cases nanB x || nanB y
  · simp only [Bool.false_eq_true, if_false]
    rcases Int.lt_trichotomy (sv x) (sv y) with h | h | h
    · rw [cmp_lt h]; simp; omega
    · rw [cmp_eq h]; simp [h]
    · rw [cmp_gt h]; simp; omega
  · simp
theorem ord_ne : (FloatKind.f64.format.order x y != some .eq) = !(eqF x y) := by rw [bne, ord_eq x y hx hy]
end
theorem eqF_self (x : Nat) : eqF x x = !(nanB x) := by simp [eqF]

/-! ### Keys -/
def keyF (x : Nat) : Nat := if nanB x then 0 else if 2^63 ≤ x then 1 + (2^64 - 1 - x) else 1 + (x + 2^63)
def cmpN (x y : Nat) : Int := if x < y then -1 else if y < x then 1 else 0
def cmpI (x y : Int) : Int := if x < y then -1 else if y < x then 1 else 0
def cmpK (x y : Nat) : Int := cmpN (keyF x) (keyF y)
def sgnF (x : Nat) : Int := if eqF x 0 then (if negB x then -1 else 1) else 0
def cmpF (x y : Nat) : Int := if nanB x then (if nanB y then 0 else -1) else if nanB y then 1 else if ltF x y then -1 else if ltF y x then 1 else 0
def rcmp (x y : Nat) : Int := if cmpF x y = 0 then cmpI (sgnF x) (sgnF y) else cmpF x y

theorem keyF_nan {x : Nat} (h : nanB x = true) : keyF x = 0 := by unfold keyF; rw [if_pos h]
theorem keyF_num {x : Nat} (hx : x < 2^64) (h : nanB x = false) : keyF x = if negB x then 2^63 - rung x else 2^63 + 1 + rung x := by
  unfold keyF negB rung
  rw [h]
  simp only [Bool.false_eq_true, if_false, decide_eq_true_eq]
  split <;> omega
theorem rung_le {x : Nat} (h : nanB x = false) : rung x ≤ inf := by
  unfold nanB at h
  have := of_decide_eq_false h
  omega
theorem inf_lt : inf < 2^63 := by decide

theorem nan_zero : nanB 0 = false := by decide
theorem sv_zero : sv 0 = 0 := by decide
theorem V_zero : V 0 = 0 := by decide
theorem V_pos {r : Nat} (h : 0 < r) : 0 < V r := by have := V_lt h; rw [V_zero] at this; exact this

theorem sgnF_num {x : Nat} (h : nanB x = false) : sgnF x = if rung x = 0 then (if negB x then -1 else 1) else 0 := by
  unfold sgnF eqF
  rw [h, nan_zero, sv_zero]
  by_cases hr : rung x = 0
  · have : sv x = 0 := by unfold sv; rw [hr, V_zero]; split <;> rfl
    simp [this, hr]
  · have hp := V_pos (Nat.pos_of_ne_zero hr)
    have : ¬ sv x = 0 := by
      unfold sv
      generalize V (rung x) = c at *
      split <;> omega
    simp [this, hr]
theorem sgnF_nan {x : Nat} (h : nanB x = true) : sgnF x = 0 := by
  unfold sgnF eqF; rw [h]; simp

theorem rcmp_eq (x y : Nat) (hx : x < 2^64) (hy : y < 2^64) : rcmp x y = cmpK x y := by
  unfold rcmp cmpK cmpF
  cases h1 : nanB x
  · have k1 := keyF_num hx h1
    have r1 := rung_le h1
    have i1 := inf_lt
    cases h2 : nanB y
    · have k2 := keyF_num hy h2
      have r2 := rung_le h2
      have s1 := sgnF_num h1
      have s2 := sgnF_num h2
      rw [k1, k2, s1, s2]
      simp only [Bool.false_eq_true, if_false, ltF, h1, h2, Bool.or_self, Bool.not_false, Bool.true_and, decide_eq_true_eq]
      unfold sv
      have v1 : 0 < rung x → 0 < V (rung x) := V_pos
      have v2 : 0 < rung y → 0 < V (rung y) := V_pos
      have z1 : rung x = 0 → V (rung x) = 0 := fun h => by rw [h, V_zero]
      have z2 : rung y = 0 → V (rung y) = 0 := fun h => by rw [h, V_zero]
      have m1 := @V_iff (rung x) (rung y)
      have m2 := @V_iff (rung y) (rung x)
      generalize V (rung x) = c at *
      generalize V (rung y) = d at *
      generalize rung x = r at *
      generalize rung y = s at *
      generalize inf = i at *
      clear h1 h2 k1 k2 s1 s2 hx hy
      unfold cmpI cmpN
      cases negB x <;> cases negB y <;> simp only [Bool.false_eq_true, if_false, if_true] <;> (repeat' split) <;> omega
    · rw [keyF_nan h2, k1]
      simp only [Bool.false_eq_true, if_false, if_true]
      unfold cmpN
      rw [if_neg (by omega), if_neg (by omega)]
      split <;> (repeat' split) <;> omega
  · rw [keyF_nan h1]
    cases h2 : nanB y
    · have k2 := keyF_num hy h2
      have r2 := rung_le h2
      have i1 := inf_lt
      rw [k2]
      simp only [Bool.false_eq_true, if_false, if_true]
      unfold cmpN
      rw [if_neg (by omega)]
      split <;> (repeat' split) <;> omega
    · rw [keyF_nan h2, sgnF_nan h1, sgnF_nan h2]
      simp [cmpN, cmpI]

theorem cmpN_neg (a b : Nat) : cmpN a b = -(cmpN b a) := by unfold cmpN; (repeat' split) <;> omega
theorem cmpN_self (a : Nat) : cmpN a a = 0 := by unfold cmpN; (repeat' split) <;> omega
theorem cmpN_range (a b : Nat) : -1 ≤ cmpN a b ∧ cmpN a b ≤ 1 := by unfold cmpN; (repeat' split) <;> omega
theorem cmpN_three (a b c : Nat) (h1 : cmpN a b ≤ 0) (h2 : cmpN b c ≤ 0) : cmpN a c ≤ 0 := by
  unfold cmpN at *; (repeat' split) <;> (repeat' split at h1) <;> (repeat' split at h2) <;> omega
theorem cmpN_same (a b c : Nat) (h1 : cmpN a b = 0) : cmpN a c = cmpN b c := by
  unfold cmpN at *; (repeat' split) <;> (repeat' split at h1) <;> omega
theorem small_le {x : Nat} (h : nanB x = false) (h2 : x < 2^63) : x ≤ 9218868437227405312 := by
  have h1 := rung_le h
  unfold rung inf at h1
  omega
theorem rung_small {x : Nat} (h : x < 2^63) : rung x = x := by unfold rung; omega
theorem neg_small {x : Nat} (h : x < 2^63) : negB x = false := by unfold negB; rw [decide_eq_false_iff_not]; omega
theorem inf_val : inf = 9218868437227405312 := by decide
theorem nan_small {x : Nat} (h : x ≤ 9218868437227405312) : nanB x = false := by unfold nanB; rw [rung_small (by omega), inf_val, decide_eq_false_iff_not]; omega
theorem key_small {x : Nat} (h : x ≤ 9218868437227405312) : keyF x = 1 + (x + 2^63) := by
  rw [keyF, nan_small h, if_neg (by simp), if_neg (by omega)]
theorem plain_small {x : Nat} (h : x < 9218868437227405312) : nanB x = false ∧ eqF x 0 = decide (x = 0) ∧ negB x = false := by
  refine ⟨nan_small (by omega), ?_, neg_small (by omega)⟩
  rw [eqF, nan_small (by omega), nan_zero, sv_zero, sv, neg_small (by omega), rung_small (by omega)]
  rw [Bool.eq_iff_iff]
  simp only [Bool.false_eq_true, if_false, Bool.or_self, Bool.not_false, Bool.true_and, decide_eq_true_eq]
  constructor
  · intro h2
    rcases Nat.eq_zero_or_pos x with h3 | h3
    · exact h3
    · have := V_pos h3; omega
  · intro h2; rw [h2, V_zero]; rfl
attribute [irreducible] V rung inf nanB negB sv ltF eqF keyF sgnF cmpF cmpK
end Go.Proofs.Ytofhohofaedokaa

/- Contracts of rate.Compare and its reference. -/
namespace Go.Proofs.Ytofhohofaedokaa
open Go.RowKit
set_option linter.unusedVariables false
theorem isnan_i (x : Int) (w : World) : Calls Try.prog 66 #[.int .i64 x] w fun e w' => e = .returned (.bool false) ∧ w = w' := by
  go_enter Try.func66, Try.ntmps66
  go_wp2
  go_ret
  exact ⟨by simp, rfl⟩
theorem cmpi_any (x y : Int) (w : World) : Calls Try.prog 56 #[.int .i64 x, .int .i64 y] w fun e w' => e = .returned (.int .i64 (cmpI x y)) ∧ w = w' := by
  unfold cmpI
  by_cases h1 : x < y
  · rw [if_pos h1]
    go_enter Try.func56, Try.ntmps56
    go_wp2_with (go_at_call 66; refine (isnan_i _ _).mono ?_; rintro e w' ⟨rfl, rfl⟩)
    go_ret
    exact ⟨rfl, rfl⟩
  · rw [if_neg h1]
    by_cases h2 : y < x
    · rw [if_pos h2]
      go_enter Try.func56, Try.ntmps56
      go_wp2_with (go_at_call 66; refine (isnan_i _ _).mono ?_; rintro e w' ⟨rfl, rfl⟩)
      go_ret
      exact ⟨rfl, rfl⟩
    · rw [if_neg h2]
      go_enter Try.func56, Try.ntmps56
      go_wp2_with (go_at_call 66; refine (isnan_i _ _).mono ?_; rintro e w' ⟨rfl, rfl⟩)
      go_ret
      exact ⟨rfl, rfl⟩
/-- cmp.Or of two. -/
theorem or_two (x y : Int) (w : World) :
    Calls Try.prog 55 #[.slice (some ⟨w.heap.size, 0, none⟩) 2 2] (w.alloc (.cells #[.int .i64 x, .int .i64 y] 3)) fun e w' => e = .returned (.int .i64 (if x = 0 then y else x)) ∧ w.alloc (.cells #[.int .i64 x, .int .i64 y] 3) = w' := by
  obtain ⟨g, hg⟩ : ∃ g, w.heap.size = g := ⟨_, rfl⟩
  obtain ⟨V, hV⟩ : ∃ V, w.alloc (.cells #[.int .i64 x, .int .i64 y] 3) = V := ⟨_, rfl⟩
  have c0 : V.cell? ⟨g, 0, none⟩ = some (.int .i64 x) := by rw [← hV, ← hg]; simp
  have c1 : V.cell? ⟨g, 1, none⟩ = some (.int .i64 y) := by rw [← hV, ← hg]; simp
  rw [hg, hV]
  clear hg hV
  by_cases hx : x = 0
  · subst hx
    rw [if_pos rfl]
    by_cases hy : y = 0
    · subst hy
      go_enter Try.func55, Try.ntmps55
      go_wp2
      go_loop [8] (fun i => ∃ k : Nat, k ≤ 2 ∧ i = .int .i64 k) (fun i => 2 - (intOf i).toNat)
      case atStart => exact ⟨0, by omega, rfl⟩
      case round =>
        obtain ⟨k, hk, rfl⟩ := hrel
        match k, hk with
        | 0, _ =>
          go_wp2
          go_round
          case rel => exact ⟨1, by omega, by go_num⟩
          case measure => simp [intOf]
        | 1, _ =>
          go_wp2
          go_round
          case rel => exact ⟨2, by omega, by go_num⟩
          case measure => simp [intOf]
        | 2, _ =>
          go_wp2
          go_ret
          exact ⟨rfl, rfl⟩
    · have hb : (y != 0) = true := by simpa using hy
      go_enter Try.func55, Try.ntmps55
      go_wp2
      go_loop [8] (fun i => ∃ k : Nat, k ≤ 1 ∧ i = .int .i64 k) (fun i => 2 - (intOf i).toNat)
      case atStart => exact ⟨0, by omega, rfl⟩
      case round =>
        obtain ⟨k, hk, rfl⟩ := hrel
        match k, hk with
        | 0, _ =>
          go_wp2
          go_round
          case rel => exact ⟨1, by omega, by go_num⟩
          case measure => simp [intOf]
        | 1, _ =>
          go_wp2
          go_ret
          exact ⟨rfl, rfl⟩
  · rw [if_neg hx]
    have hb : (x != 0) = true := by simpa using hx
    clear hx
    go_enter Try.func55, Try.ntmps55
    go_wp2
    go_loop [8] (fun i => i = .int .i64 0) (fun i => 2 - (intOf i).toNat)
    case atStart => rfl
    case round =>
      subst hrel
      go_wp2
      go_ret
      exact ⟨rfl, rfl⟩

theorem u64_in (n : Int) (h : 0 ≤ n ∧ n ≤ 18446744073709551615) : IntKind.u64.wrap n = n := by
  simp only [IntKind.wrap, IntKind.signed, IntKind.bits, Bool.false_and, Bool.false_eq_true, if_false]
  omega
theorem bv64 (n : Nat) : (BitVec.ofInt 64 (n : Int)).toNat = n % 2^64 := by
  rw [BitVec.toNat_ofInt]; omega
theorem intBits_or (k : IntKind) (x y : Int) : Op.intBits .or k x y = pure (.int k (k.wrap ((BitVec.ofInt k.bits x ||| BitVec.ofInt k.bits y).toNat : Nat))) := rfl
theorem intBits_andNot (k : IntKind) (x y : Int) : Op.intBits .andNot k x y = pure (.int k (k.wrap ((BitVec.ofInt k.bits x &&& ~~~(BitVec.ofInt k.bits y)).toNat : Nat))) := rfl
theorem top_lit : (9223372036854775808 : Int) = ((2^63 : Nat) : Int) := by decide
theorem or_top (x : Nat) (h : x < 2^63) : Op.intBits .or .u64 (x : Int) 9223372036854775808 = pure (.int .u64 ((x : Int) + 9223372036854775808)) := by
  have e : ((BitVec.ofInt 64 (x : Int)) ||| (BitVec.ofInt 64 ((2^63 : Nat) : Int))).toNat = x + 2^63 := by
    rw [BitVec.toNat_or, bv64, bv64, Nat.mod_eq_of_lt (by omega), Nat.mod_eq_of_lt (by omega), Nat.or_comm]
    have := Nat.two_pow_add_eq_or_of_lt h 1
    rw [Nat.mul_one] at this
    rw [← this, Nat.add_comm]
  rw [intBits_or, top_lit, show IntKind.u64.bits = 64 from rfl, e, u64_in _ (by omega)]
  rw [Int.natCast_add]
theorem abs_bits (x : Nat) (h : x < 2^64) : Op.intBits .andNot .u64 (x : Int) 9223372036854775808 = pure (.int .u64 ((x % 2^63 : Nat) : Int)) := by
  have e : ((BitVec.ofInt 64 (x : Int)) &&& ~~~(BitVec.ofInt 64 ((2^63 : Nat) : Int))).toNat = x % 2^63 := by
    have h1 : ~~~(BitVec.ofInt 64 ((2^63 : Nat) : Int)) = BitVec.ofNat 64 (2^63 - 1) := by decide
    rw [h1, BitVec.toNat_and, bv64, BitVec.toNat_ofNat, Nat.mod_eq_of_lt h, Nat.mod_eq_of_lt (a := 2^63 - 1) (by omega), Nat.and_two_pow_sub_one_eq_mod]
  rw [intBits_andNot, top_lit, show IntKind.u64.bits = 64 from rfl, e, u64_in _ (by omega)]
end Go.Proofs.Ytofhohofaedokaa

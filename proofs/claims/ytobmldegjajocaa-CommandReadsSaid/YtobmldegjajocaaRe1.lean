/- Words for memory that all proofs of this set share: a slice that reads as a list of cells; append and make on rows of the call's own; a block known whole. No program in sight. -/
import Derived.WalkKit
import Derived.WalkLawsBesides
import Derived.Lib.Hide
import Derived.Deep.Draws
import Derived.Maps.AppendAt
import Derived.StillTailTactics
import Derived.Deep.QuietTactic
import Derived.BigQuiet
import Derived.Deep.MidRow
import Derived.Test.YtobmldegjajocaaRows
set_option linter.unusedSimpArgs false
set_option linter.unusedVariables false
set_option maxRecDepth 100000
set_option maxHeartbeats 16000000
namespace Go.Proofs.Ytobmldegjajocaa
open Go.RowKit
theorem kp {p : Prop} (h : p) : Hid p := Lib.hid h
end Go.Proofs.Ytobmldegjajocaa
theorem Go.RowKit.Hid.o {p : Prop} (h : Go.RowKit.Hid p) : p := h
namespace Go.Proofs.Ytobmldegjajocaa
open Go.RowKit
theorem kq (p : Prop) (h : p) : Hid p := h
theorem xe {α : Sort _} (x : α) : ∃ q, q = x := ⟨_, rfl⟩
theorem bq {P : Program} {f : FuncId} {a : Array Value} {w : World} {Q : Ending → World → Prop} (h : ∀ w_, Hid (Below w.heap.size w w_) → Calls P f a w_ Q) : Calls P f a w Q := h w (Below.refl _ _)
theorem ret_bool {a b : Bool} (h : a = b) : Ending.returned (.bool a) = .returned (.bool b) := by rw [h]
theorem bcell {W w1 : World} (hb : Below W.heap.size W w1) {b o : Nat} {v : Value} (h : W.cell? ⟨b, o, none⟩ = some v) : w1.cell? ⟨b, o, none⟩ = some v :=
 (hb.cell (p := ⟨b, o, none⟩) (World.block_lt_of_cell? W ⟨b, o, none⟩ h)).trans h
theorem below_chain {a b c : World} (h : Below a.heap.size a b) (k : Below b.heap.size b c) : Below a.heap.size a c := h.trans (k.mono h.size)
theorem below_dn {B : Nat} {a b : World} (h : Below B a b) (n : Nat) : Below B a (b.drewN n) := ⟨h.os, h.tape, h.output, h.size, h.block⟩
theorem below_step {B : Nat} {a b c : World} (h : Below B a b) (hB : B ≤ b.heap.size) (k : Below b.heap.size b c) : Below B a c := h.trans (k.mono hB)
def Sl (w : World) (B sz : Nat) (A : Option Addr) (n : Nat) (xs : List Value) : Prop :=
 xs.length = n * sz ∧ (0 < n → ∃ b off, A = some ⟨b, off, none⟩ ∧ b < B ∧ ∀ j u, xs[j]? = some u → w.cell? ⟨b, off + j, none⟩ = some u)
section
variable {w w' : World} {B B' sz n : Nat} {A : Option Addr} {xs : List Value}
theorem Sl.nil : Sl w B sz A 0 [] := ⟨by simp, fun h => absurd h (by omega)⟩
theorem Sl.len (h : Sl w B 1 A n xs) : xs.length = n := by have := h.1; omega
theorem Sl.at_ {k : Nat} (h : Sl w B 1 A n xs) (hk : k < n) : ∃ b off u, A = some ⟨b, off, none⟩ ∧ b < B ∧ xs[k]? = some u ∧ w.cell? ⟨b, off + k, none⟩ = some u := by
 obtain ⟨b, off, e, hb, hc⟩ := h.2 (by omega);have hl : k < xs.length := by have := h.1; omega
 exact ⟨b, off, xs[k], e, hb, List.getElem?_eq_getElem hl, hc k _ (List.getElem?_eq_getElem hl)⟩
theorem Sl.keep (h : Sl w B sz A n xs) (hk : ∀ p : Addr, p.block < B → w'.cell? p = w.cell? p) : Sl w' B sz A n xs :=
 ⟨h.1, fun hn => by
  obtain ⟨b, off, e, hb, hc⟩ := h.2 hn
  exact ⟨b, off, e, hb, fun j u hu => (hk ⟨b, off + j, none⟩ hb).trans (hc j u hu)⟩⟩
theorem Sl.more (h : Sl w B sz A n xs) (hB : B ≤ B') : Sl w B' sz A n xs :=
 ⟨h.1, fun hn => by
  obtain ⟨b, off, e, hb, hc⟩ := h.2 hn
  exact ⟨b, off, e, by omega, hc⟩⟩
theorem Sl.below (h : Sl w B sz A n xs) (hb : Below B w w') : Sl w' B sz A n xs := h.keep fun _ hp => hb.cell hp
theorem Sl.alloc (h : Sl w B sz A n xs) (hB : B ≤ w.heap.size) (o : Obj) : Sl (w.alloc o) B sz A n xs := h.keep fun p hp => World.cell?_alloc_lt w o p (by omega)
theorem Sl.grown (h : Sl w B sz A n xs) {row : Option Nat} (hg : w.grownBy w' row) (hB : B ≤ w.heap.size) (hr : ∀ g, row = some g → B ≤ g) : Sl w' B sz A n xs :=
 h.keep fun p hp => World.cell?_of_block (hg.block p.block (by omega) (fun e => by have := hr _ e.symm; omega))
theorem Sl.cut (h : Sl w B sz A n xs) {k m cap : Nat} (hk : k + m ≤ n) (hc : n ≤ cap) :
  Sl w B sz (if cap = k then A else A.map (·.add (k * sz))) m ((xs.drop (k * sz)).take (m * sz)) := by
 have hmul : (k + m) * sz ≤ n * sz := Nat.mul_le_mul_right _ hk;refine ⟨?_, fun hn => ?_⟩
 ·rw [List.length_take, List.length_drop, h.1, Nat.min_eq_left];rw [Nat.add_mul] at hmul; omega
 ·obtain ⟨b, off, rfl, hb, hcell⟩ := h.2 (by omega);rw [if_neg (by omega)];refine ⟨b, off + k * sz, ?_, hb, fun j u hu => ?_⟩
  ·simp only [Option.map_some, Addr.add];split <;> simp_all
  ·have hu2 : xs[k * sz + j]? = some u := by
    rw [List.getElem?_take] at hu;split at hu
    ·rw [← hu, List.getElem?_drop]
    ·cases hu
   rw [Nat.add_assoc];exact hcell _ u hu2
theorem Sl.from_ {b off k : Nat} (h : Sl w B 1 (some ⟨b, off, none⟩) n xs) (hk : k ≤ n) : Sl w B 1 (some ⟨b, off + k, none⟩) (n - k) (xs.drop k) := by
 refine ⟨by rw [List.length_drop, h.len]; omega, fun hn => ?_⟩;obtain ⟨b', off', e, hb, hc⟩ := h.2 (by omega);cases e
 exact ⟨b, off + k, rfl, hb, fun j u hu => by rw [Nat.add_assoc]; exact hc _ u (by rw [← hu, List.getElem?_drop])⟩
theorem Sl.of_own {base : Nat} {e : TypeId} {c : Nat} (h : w.ownsRow base e sz (.slice A n c) n xs) : Sl w w.heap.size sz A n xs := by
 refine ⟨h.1, fun hn => ?_⟩;rcases h.2 with ⟨hv, h0⟩ | ⟨g, cap, cur, hv, hbg, hh, hcap, hm, hs, ht⟩
 ·omega
 ·injection hv with hA
  have hlt := (h.lt g (by rw [hA]; rfl)).2;refine ⟨g, 0, hA, hlt, fun j u hu => ?_⟩;have := h.cells (g := g) (by rw [hA]; rfl) j u hu
  rwa [Addr.add_lit] at this
theorem Sl.lit (w : World) (cs : Array Value) (t : TypeId) (n : Nat) (h : cs.size = n * sz) : Sl (w.alloc (.cells cs t)) (w.heap.size + 1) sz (some ⟨w.heap.size, 0, none⟩) n cs.toList :=
 ⟨by simpa using h, fun _ => ⟨_, _, rfl, by omega, fun j u hu => by simpa using hu⟩⟩
end
section
variable {w w' : World} {base : Nat} {e : TypeId} {sz n c : Nat} {A : Option Addr} {xs : List Value}
theorem own_form (h : w.ownsRow base e sz (.slice A n c) n xs) (hn : 0 < n) : ∃ g, A = some ⟨g, 0, none⟩ ∧ base ≤ g ∧ g < w.heap.size ∧ n ≤ c := by
 rcases h.2 with ⟨_, h0⟩ | ⟨g, cap, cur, hv, hbg, hh, hcap, _⟩
 ·omega
 ·injection hv with hA _ hc
  exact ⟨g, hA, hbg, (h.lt g (by rw [hA]; rfl)).2, by omega⟩
theorem own_below (h : w.ownsRow base e sz (.slice A n c) n xs) (hb : Below w.heap.size w w') : w'.ownsRow base e sz (.slice A n c) n xs := by
 obtain ⟨h1, h2⟩ := h;refine ⟨h1, ?_⟩;rcases h2 with h2 | ⟨g, cap, cur, hv, hg, hh, r⟩
 ·exact .inl h2
 ·refine .inr ⟨g, cap, cur, hv, hg, ?_, r⟩;rw [hb.block g ?_]; exact hh;rcases Nat.lt_or_ge g w.heap.size with hlt | hge
  ·exact hlt
  ·rw [Array.getElem?_eq_none hge] at hh; cases hh
theorem own_base {base' : Nat} (h : w.ownsRow base e sz (.slice A n c) n xs) (hle : base' ≤ base) : w.ownsRow base' e sz (.slice A n c) n xs := by
 obtain ⟨h1, h2⟩ := h;refine ⟨h1, ?_⟩;rcases h2 with h2 | ⟨g, cap, cur, hv, hg, r⟩
 ·exact .inl h2
 ·exact .inr ⟨g, cap, cur, hv, by omega, r⟩
theorem own_alloc (h : w.ownsRow base e sz (.slice A n c) n xs) (o : Obj) : (w.alloc o).ownsRow base e sz (.slice A n c) n xs := h.alloc o
theorem own_kept {row : Option Nat} (h : w.ownsRow base e sz (.slice A n c) n xs) (hg : w.grownBy w' row) (hne : ∀ g, A = some ⟨g, 0, none⟩ → some g ≠ row) : w'.ownsRow base e sz (.slice A n c) n xs := by
 refine h.kept hg ?_;rcases h.2 with ⟨hv, _⟩ | ⟨g, cap, cur, hv, _⟩
 ·injection hv with hA; subst hA; exact .inl rfl
 ·injection hv with hA; subst hA; exact .inr (hne g rfl)
theorem own_slice {v : Value} (h : w.ownsRow base e sz v n xs) : ∃ A c, v = .slice A n c := by
 rcases h.2 with ⟨rfl, rfl⟩ | ⟨g, cap, cur, rfl, _⟩
 ·exact ⟨_, _, rfl⟩
 ·exact ⟨_, _, rfl⟩
end
section
variable {P : Program} (w : World)
theorem run_app_none (base : Nat) (t ty e : TypeId) (i : TypeInfo) (sz : Nat) (ht : P.underlying t = some (.slice e)) (hi : P.info? e = some i)
  (v : Value) (n : Nat) (xs : List Value) (hown : w.ownsRow base e sz v n xs) (c : Nat) : (Builtin.append_ #[t, t] ty #[v, .slice none 0 c]).run P w = .ok v w := by
 rcases hown.2 with ⟨rfl, rfl⟩ | ⟨g, cap, cur, rfl, _, _, hnc, _⟩
 ·simp [Builtin.append_, run_underlying ht, sizeOf, typeInfo, hi, Builtin.lenOf, Builtin.firstCells]
 ·simp [Builtin.append_, run_underlying ht, sizeOf, typeInfo, hi, Builtin.lenOf, Builtin.firstCells, hnc, storeCells]
theorem run_app (base : Nat) (t ty e : TypeId) (i : TypeInfo) (z : Value) (sz bytes : Nat) (ht : P.underlying t = some (.slice e)) (hi : P.info? e = some i) (hz : i.zero = some z)
  (hsize : i.size = sz) (hby : i.bytes = bytes) (hzs : z.cells.size = sz) (hsz : 0 < sz)
  (A : Option Addr) (n c : Nat) (xs : List Value) (hown : w.ownsRow base e sz (.slice A n c) n xs)
  (B : Nat) (A2 : Option Addr) (m c2 : Nat) (news : List Value) (hr : Sl w B sz A2 m news) (h1 : ∀ u ∈ news, u.oneCell' = true)
  (h63 : n + m ≤ maxLen) (hbytes : (n + m) * bytes ≤ 140737488355328) (hbase : base ≤ w.heap.size) :
  ∃ A' c' w', (Builtin.append_ #[t, t] ty #[.slice A n c, .slice A2 m c2]).run P w = .ok (.slice A' (n + m) c') w' ∧ w'.ownsRow base e sz (.slice A' (n + m) c') (n + m) (xs ++ news) ∧ w.grownBy w' (A.map Addr.block) ∧
   (A'.map Addr.block = A.map Addr.block ∨ A'.map Addr.block = some w.heap.size) := by
 have hob : ∀ (A : Option Addr) n c, (Value.slice A n c).ownBlock = A.map Addr.block := fun A n c => by cases A <;> rfl
 rcases Nat.eq_zero_or_pos m with h0 | h0
 ·subst h0;have hn : news = [] := List.eq_nil_of_length_eq_zero (by simpa using hr.1);subst hn;rcases A2 with _ | ad
  ·exact ⟨A, c, w, by simpa using run_app_none (P := P) w base t ty e i sz ht hi _ n xs hown c2, by simpa using hown, World.grownBy.refl w _, .inl rfl⟩
  ·obtain ⟨v', w', hrun, h2, h3, _, h5⟩ := run_append_own_at (P := P) w base t ty e i z sz bytes ht hi hz hsize hby hzs hsz _ n xs hown ad 0 c2 [] (by simp) (by simp) (by simp) h63 hbytes hbase;obtain ⟨A', c', rfl⟩ := own_slice h2;simp only [hob] at h3 h5;exact ⟨A', c', w', hrun, h2, h3, h5⟩
 ·obtain ⟨b, off, rfl, _, hc⟩ := hr.2 h0;obtain ⟨v', w', hrun, h2, h3, _, h5⟩ := run_append_own_at (P := P) w base t ty e i z sz bytes ht hi hz hsize hby hzs hsz _ n xs hown ⟨b, off, none⟩ m c2 news hr.1 (fun j u hu => by rw [Addr.add_lit]; exact hc j u hu) h1 h63 hbytes hbase;obtain ⟨A', c', rfl⟩ := own_slice h2;simp only [hob] at h3 h5;exact ⟨A', c', w', hrun, h2, h3, h5⟩
theorem wp_app {o : Oper} {a : Act} {K : Act → World → Prop} {Q : Exit → Act → World → Prop} (s x : Operand) (t : TypeId)
  (ho : o.op = .call { callee := .builtin .append, args := #[s, x], argTypes := #[t, t] })
  (base : Nat) (e : TypeId) (i : TypeInfo) (z : Value) (sz bytes : Nat) (ht : P.underlying t = some (.slice e)) (hi : P.info? e = some i) (hz : i.zero = some z)
  (hsize : i.size = sz) (hby : i.bytes = bytes) (hzs : z.cells.size = sz) (hsz : 0 < sz)
  (A : Option Addr) (n c : Nat) (xs : List Value) (hs : a.eval s = .slice A n c) (hown : w.ownsRow base e sz (.slice A n c) n xs)
  (B : Nat) (A2 : Option Addr) (m c2 : Nat) (news : List Value) (hx : a.eval x = .slice A2 m c2) (hr : Sl w B sz A2 m news) (h1 : ∀ u ∈ news, u.oneCell' = true)
  (h63 : n + m ≤ maxLen) (hbytes : (n + m) * bytes ≤ 140737488355328) (hbase : base ≤ w.heap.size)
  (h : ∀ A' c' w', w'.ownsRow base e sz (.slice A' (n + m) c') (n + m) (xs ++ news) → w.grownBy w' (A.map Addr.block) → (A'.map Addr.block = A.map Addr.block ∨ A'.map Addr.block = some w.heap.size) → K (a.put o.dst (.slice A' (n + m) c')) w') : o.wp P a w K Q := by
 obtain ⟨A', c', w', hrun, h2, h3, h4⟩ := run_app (P := P) w base t o.type e i z sz bytes ht hi hz hsize hby hzs hsz A n c xs hown B A2 m c2 news hr h1 h63 hbytes hbase;unfold Oper.wp execOp;simp only [ho, resolve, invoke, builtin, Sem.run_bind, Sem.run_pure, Result.andThen_ok, List.map_toArray, List.map_cons, List.map_nil, hs, hx, hrun];exact h A' c' w' h2 h3 h4
theorem wpl_app {ops : Array Oper} {rest : List Oper} {o : Oper} {a : Act} {Q : Exit → Act → World → Prop} (hgd : o.guard = none) (s x : Operand) (t : TypeId)
  (ho : o.op = .call { callee := .builtin .append, args := #[s, x], argTypes := #[t, t] })
  (base : Nat) (e : TypeId) (i : TypeInfo) (z : Value) (sz bytes : Nat) (ht : P.underlying t = some (.slice e)) (hi : P.info? e = some i) (hz : i.zero = some z)
  (hsize : i.size = sz) (hby : i.bytes = bytes) (hzs : z.cells.size = sz) (hsz : 0 < sz)
  (A : Option Addr) (n c : Nat) (xs : List Value) (hs : a.eval s = .slice A n c) (hown : w.ownsRow base e sz (.slice A n c) n xs)
  (B : Nat) (A2 : Option Addr) (m c2 : Nat) (news : List Value) (hx : a.eval x = .slice A2 m c2) (hr : Sl w B sz A2 m news) (h1 : ∀ u ∈ news, u.oneCell' = true)
  (h63 : n + m ≤ maxLen) (hbytes : (n + m) * bytes ≤ 140737488355328) (hbase : base ≤ w.heap.size)
  (h : ∀ A' c' w', w'.ownsRow base e sz (.slice A' (n + m) c') (n + m) (xs ++ news) → w.grownBy w' (A.map Addr.block) → (A'.map Addr.block = A.map Addr.block ∨ A'.map Addr.block = some w.heap.size) → wpList P ops Q rest (a.put o.dst (.slice A' (n + m) c')) w') : wpList P ops Q (o :: rest) a w :=
 wpList_plain hgd fun _ hK => wp_app w s x t ho base e i z sz bytes ht hi hz hsize hby hzs hsz A n c xs hs hown B A2 m c2 news hx hr h1 h63 hbytes hbase fun A' c' w' h2 h3 h4 => hK _ _ (h A' c' w' h2 h3 h4)
end
def Blk (w : World) (g : Nat) (t : TypeId) (cs : List Value) : Prop := w.heap[g]? = some (.cells cs.toArray t (0, 0))
section
variable {w w' : World} {g : Nat} {t : TypeId} {cs : List Value}
theorem Blk.lt (h : Blk w g t cs) : g < w.heap.size := by
 rcases Nat.lt_or_ge g w.heap.size with hlt | hge
 ·exact hlt
 ·unfold Blk at h; rw [Array.getElem?_eq_none hge] at h; cases h
theorem Blk.cell (h : Blk w g t cs) (i : Nat) : w.cell? ⟨g, i, none⟩ = cs[i]? := by
 rw [cell_of_row w g i _ t (0, 0) h]; simp
theorem Blk.at_ (h : Blk w g t cs) {i : Nat} {v : Value} (hv : cs[i]? = some v) : w.cell? ⟨g, i, none⟩ = some v := (h.cell i).trans hv
theorem Blk.frozen (h : Blk w g t cs) (i : Nat) : w.frozen? ⟨g, i, none⟩ = false := frozen_of_row w g i _ t h
theorem Blk.set_ (h : Blk w g t cs) (i : Nat) (u : Value) : Blk (w.setCell ⟨g, i, none⟩ u) g t (cs.set i u) := by
 have := heap_setCell_same w g i cs.toArray t u h;unfold Blk;rw [this]; simp
theorem Blk.below {B : Nat} (h : Blk w g t cs) (hb : Below B w w') (hg : g < B) : Blk w' g t cs := (hb.block g hg).trans h
theorem Blk.call (h : Blk w g t cs) (hb : Below w.heap.size w w') : Blk w' g t cs := h.below hb h.lt
theorem Blk.grown {row : Option Nat} (h : Blk w g t cs) (hb : w.grownBy w' row) (hg : some g ≠ row) : Blk w' g t cs := (hb.block g h.lt hg).trans h
theorem Blk.sl {sz n : Nat} (h : Blk w g t cs) (hn : cs.length = n * sz) : Sl w w.heap.size sz (some ⟨g, 0, none⟩) n cs :=
 ⟨hn, fun _ => ⟨g, 0, rfl, h.lt, fun j u hu => by rw [Nat.zero_add]; exact h.at_ hu⟩⟩
end
theorem grown_set (w : World) (g i : Nat) (v : Value) : w.grownBy (w.setCell ⟨g, i, none⟩ v) (some g) :=
 ⟨rfl, rfl, rfl, by simp [World.setCell], fun k _ hk => Below.heap_setCell w _ v k (fun e => hk (by simp [e]))⟩
theorem grown_trans {w w2 w3 : World} {row : Option Nat} (h : w.grownBy w2 row) (k : w2.grownBy w3 row) : w.grownBy w3 row :=
 ⟨k.os.trans h.os, k.tape.trans h.tape, k.output.trans h.output, Nat.le_trans h.size k.size, fun i hi hne => (k.block i (Nat.lt_of_lt_of_le hi h.size) hne).trans (h.block i hi hne)⟩
def Drawn (w w2 : World) : Prop := ∃ n, w2 = w.drewN n
section
variable {w w2 w3 : World}
theorem Drawn.one (w : World) : Drawn w w.drew := ⟨1, rfl⟩
theorem Drawn.below {B : Nat} {w0 : World} (h : Drawn w w2) (hb : Below B w0 w) : Below B w0 w2 := by obtain ⟨n, rfl⟩ := h; exact below_dn hb n
theorem Drawn.all (h : Drawn w w2) : Below w.heap.size w w2 := h.below (Below.refl _ _)
end
section
variable {P : Program} {w : World} {ops : Array Oper} {rest : List Oper} {o : Oper} {a : Act} {Q : Exit → Act → World → Prop}
theorem wpl_alloc (hgd : o.guard = none) {T : TypeId} (ho : o.op = .alloc T) {zs : List Value} (hz : (P.info? T).map (·.zero) = some (some (.agg zs.toArray)))
  (h : ∀ w', Blk w' w.heap.size T zs → Below w.heap.size w w' → w'.heap.size = w.heap.size + 1 → wpList P ops Q rest (a.put o.dst (.pointer (some ⟨w.heap.size, 0, none⟩))) w') : wpList P ops Q (o :: rest) a w := by
 refine wpList_plain hgd fun K hK => ?_
 obtain ⟨i, hi, hzz⟩ := Option.map_eq_some_iff.1 hz
 have hrun : (Instr.alloc T true (.tuple #[])).run P w = .ok (.pointer (some ⟨w.heap.size, 0, none⟩)) (w.alloc (.cells zs.toArray T)) := by
  simp [Instr.alloc, zeroValue, typeInfo, hi, hzz, newVar, newRow, Value.cells]
 unfold Oper.wp execOp;simp only [ho, Sem.run_bind, hrun, Result.andThen_ok, Sem.run_pure];exact hK _ _ (h _ (heap_alloc_new _ _) ((Below.refl _ _).alloc (Nat.le_refl _) _) (by simp))
theorem wal {P : Program} {ops : Array Oper} {rest : List Oper} {a : Act} {w : World} {Q : Exit → Act → World → Prop} {ty : TypeId} {ps : String} {af : Array Edge} (s : Nat) {T : TypeId} {zs : List Value} (hz : (P.info? T).map (·.zero) = some (some (.agg zs.toArray))) (h : ∀ w', Blk w' w.heap.size T zs → Below w.heap.size w w' → w'.heap.size = w.heap.size + 1 → wpList P ops Q rest (a.put (some s) (.pointer (some ⟨w.heap.size, 0, none⟩))) w') : wpList P ops Q (⟨some s, .alloc T, ty, ps, af, none⟩ :: rest) a w := wpl_alloc rfl rfl hz h
theorem wpl_box (hgd : o.guard = none) {T : TypeId} {x : Operand} (ho : o.op = .box T x) {cs : List Value} (hx : a.eval x = .agg cs.toArray)
  (h : ∀ w', Blk w' w.heap.size T cs → Below w.heap.size w w' → w'.heap.size = w.heap.size + 1 → wpList P ops Q rest (a.put o.dst (.pointer (some ⟨w.heap.size, 0, none⟩))) w') : wpList P ops Q (o :: rest) a w := by
 refine wpList_plain hgd fun K hK => ?_
 have hrun : (Instr.box T (.agg cs.toArray)).run P w = .ok (.pointer (some ⟨w.heap.size, 0, none⟩)) (w.alloc (.cells cs.toArray T)) := by
  simp [Instr.box, newVar, newRow, Value.cells]
 unfold Oper.wp execOp;simp only [ho, hx, Sem.run_bind, hrun, Result.andThen_ok, Sem.run_pure];exact hK _ _ (h _ (heap_alloc_new _ _) ((Below.refl _ _).alloc (Nat.le_refl _) _) (by simp))
theorem wbx {P : Program} {ops : Array Oper} {rest : List Oper} {a : Act} {w : World} {Q : Exit → Act → World → Prop} {ty : TypeId} {ps : String} {af : Array Edge} (s : Nat) {T : TypeId} {x : Operand} {cs : List Value} (h : ∀ w', Blk w' w.heap.size T cs → Below w.heap.size w w' → w'.heap.size = w.heap.size + 1 → wpList P ops Q rest (a.put (some s) (.pointer (some ⟨w.heap.size, 0, none⟩))) w') (hx : a.eval x = .agg cs.toArray := by with_unfolding_all exact rfl) : wpList P ops Q (⟨some s, .box T x, ty, ps, af, none⟩ :: rest) a w := wpl_box rfl rfl hx h
def RowT (P : Program) (T : TypeId) (n : Nat) : Prop := ∃ d, P.underlying T = some d ∧ (match d with | .struct _ | .array _ _ => true | _ => false) = true ∧ (P.info? T).map (·.size) = some n
theorem wpl_loadb (hgd : o.guard = none) {T : TypeId} {x : Operand} (ho : o.op = .load T x) {n : Nat} (hT : RowT P T n) {g : Nat} {t : TypeId} {cs : List Value} (hb : Blk w g t cs) (hx : a.eval x = .pointer (some ⟨g, 0, none⟩)) (hn : cs.length = n)
  (h : wpList P ops Q rest (a.put o.dst (.agg cs.toArray)) w) : wpList P ops Q (o :: rest) a w := by
 obtain ⟨d, hu, hd, hi⟩ := hT;exact wpList_load_row hgd T x ho g hx t _ (0, 0) d hb hu (by revert hd; cases d <;> simp) (by rw [hi]; simp [hn]) h
theorem wlb {P : Program} {ops : Array Oper} {rest : List Oper} {a : Act} {w : World} {Q : Exit → Act → World → Prop} {ty : TypeId} {ps : String} {af : Array Edge} (s : Nat) {T : TypeId} {x : Operand} {n : Nat} (hT : RowT P T n) {g : Nat} {t : TypeId} {cs : List Value} (hb : Blk w g t cs) (hn : cs.length = n) (h : wpList P ops Q rest (a.put (some s) (.agg cs.toArray)) w) (hx : a.eval x = .pointer (some ⟨g, 0, none⟩) := by with_unfolding_all exact rfl) : wpList P ops Q (⟨some s, .load T x, ty, ps, af, none⟩ :: rest) a w := wpl_loadb rfl rfl hT hb hx hn h
theorem wpl_loadm (hgd : o.guard = none) {T : TypeId} {x : Operand} (ho : o.op = .load T x) {n : Nat} (hT : RowT P T n) {b off : Nat} {cs : List Value} (hc : ∀ j u, cs[j]? = some u → w.cell? ⟨b, off + j, none⟩ = some u) (hx : a.eval x = .pointer (some ⟨b, off, none⟩)) (hn : cs.length = n)
  (h : wpList P ops Q rest (a.put o.dst (.agg cs.toArray)) w) : wpList P ops Q (o :: rest) a w := by
 obtain ⟨d, hu, hd, hi⟩ := hT;exact wpList_load_mid hgd T x ho b off hx cs d hc hu (by cases d <;> simp_all) (by rw [hi, hn]) h
theorem wlm {P : Program} {ops : Array Oper} {rest : List Oper} {a : Act} {w : World} {Q : Exit → Act → World → Prop} {ty : TypeId} {ps : String} {af : Array Edge} (s : Nat) {T : TypeId} {x : Operand} {n : Nat} (hT : RowT P T n) {b off : Nat} {cs : List Value} (hc : ∀ j u, cs[j]? = some u → w.cell? ⟨b, off + j, none⟩ = some u) (hn : cs.length = n) (h : wpList P ops Q rest (a.put (some s) (.agg cs.toArray)) w) (hx : a.eval x = .pointer (some ⟨b, off, none⟩) := by with_unfolding_all exact rfl) : wpList P ops Q (⟨some s, .load T x, ty, ps, af, none⟩ :: rest) a w := wpl_loadm rfl rfl hT hc hx hn h
theorem run_storeb {g : Nat} {T t : TypeId} {n : Nat} (hT : RowT P T n) {old cs : List Value} (hb : Blk w g t old) (ho : old.length = n) (hn : cs.length = n) (h1 : ∀ u ∈ cs, u.oneCell' = true) :
  (Instr.storeAt T (.pointer (some ⟨g, 0, none⟩)) (.agg cs.toArray)).run P w = .ok () (w.setRow g cs.toArray) := by
 obtain ⟨d, hu, hd, hi⟩ := hT;have := run_storeVar_row (P := P) w g t T old.toArray cs.toArray hb (by rw [hi]; simp [hn]) (by simp [ho, hn]) (Array.all_eq_true_iff_forall_mem.2 (fun v hv => h1 v (by simpa using hv)));simp only [Instr.storeAt, Instr.sureAddr, Sem.run_bind, Sem.run_pure, Result.andThen_ok, this]
theorem wpl_storeb (hgd : o.guard = none) {T : TypeId} {x y : Operand} (ho : o.op = .store T x y) {n : Nat} (hT : RowT P T n) {g : Nat} {t : TypeId} {old cs : List Value} (hb : Blk w g t old) (hx : a.eval x = .pointer (some ⟨g, 0, none⟩)) (hy : a.eval y = .agg cs.toArray)
  (hol : old.length = n) (hn : cs.length = n) (h1 : ∀ u ∈ cs, u.oneCell' = true)
  (h : ∀ w', Blk w' g t cs → w.grownBy w' (some g) → w'.heap.size = w.heap.size → wpList P ops Q rest (a.put o.dst undef) w') : wpList P ops Q (o :: rest) a w := by
 refine wpList_plain hgd fun K hK => ?_
 unfold Oper.wp execOp;simp only [ho, hx, hy, Sem.run_bind, run_storeb hT hb hol hn h1, Result.andThen_ok, Sem.run_pure];refine hK _ _ (h _ (setRow_heap w g _ _ t _ hb) ⟨rfl, rfl, rfl, by simp, fun k _ hk => setRow_other w g k _ (fun e => hk (by simp [e]))⟩ (by simp))
theorem wsb {P : Program} {ops : Array Oper} {rest : List Oper} {a : Act} {w : World} {Q : Exit → Act → World → Prop} {ty : TypeId} {ps : String} {af : Array Edge} {T : TypeId} {x y : Operand} {n : Nat} (hT : RowT P T n) {g : Nat} {t : TypeId} {old cs : List Value} (hb : Blk w g t old) (hol : old.length = n) (hn : cs.length = n) (h1 : ∀ u ∈ cs, u.oneCell' = true) (h : ∀ w', Blk w' g t cs → w.grownBy w' (some g) → w'.heap.size = w.heap.size → wpList P ops Q rest (a.put none undef) w') (hx : a.eval x = .pointer (some ⟨g, 0, none⟩) := by with_unfolding_all exact rfl) (hy : a.eval y = .agg cs.toArray := by with_unfolding_all exact rfl) : wpList P ops Q (⟨none, .store T x y, ty, ps, af, none⟩ :: rest) a w := wpl_storeb rfl rfl hT hb hx hy hol hn h1 h
theorem ret_cell {fn : Func} {p : Tmp} {ty : TypeId} (h : fn.results = #[.cell p ty]) {n : Nat} (hT : RowT P ty n) {g : Nat} {t : TypeId} {cs : List Value} (hb : Blk w g t cs) (hp : a.tmps.getD p undef = .pointer (some ⟨g, 0, none⟩)) (hn : cs.length = n) (hd : a.defers = [])
  {R : Ending → World → Prop} (hR : R (.returned (.agg cs.toArray)) w) : bodyPost P fn R .ret a w := by
 obtain ⟨d, hu, hdd, hi⟩ := hT;exact bodyPost_ret (results_cell_row h a.tmps w g t _ (0, 0) d hp hb hu (by revert hdd; cases d <;> simp) (by rw [hi]; simp [hn])) hd hR
end
theorem grown_of_below {w w' : World} (h : Below w.heap.size w w') (row : Option Nat) : w.grownBy w' row := ⟨h.os, h.tape, h.output, h.size, fun k hk _ => h.block k hk⟩
structure ElemT (P : Program) (t e : TypeId) (sz bytes : Nat) : Prop where
 ht : P.underlying t = some (.slice e)
 hi : ∃ i z, P.info? e = some i ∧ i.zero = some z ∧ i.size = sz ∧ i.bytes = bytes ∧ z.cells.size = sz ∧ 0 < sz
theorem elemT {P : Program} {t e : TypeId} {z : Value} {sz bytes : Nat} (ht : P.underlying t = some (.slice e))
  (h : (P.info? e).map (fun i => (i.zero, i.size, i.bytes)) = some (some z, sz, bytes)) (hz : z.cells.size = sz) (h0 : 0 < sz) : ElemT P t e sz bytes := by
 obtain ⟨i, hi, h1, h2, h3⟩ := info_parts h;exact ⟨ht, i, z, hi, h1, h2, h3, hz, h0⟩
theorem wpl_apps {P : Program} {w : World} {ops : Array Oper} {rest : List Oper} {o : Oper} {a : Act} {Q : Exit → Act → World → Prop} (hgd : o.guard = none) {s x : Operand} {t : TypeId}
  (ho : o.op = .call { callee := .builtin .append, args := #[s, x], argTypes := #[t, t] })
  {base : Nat} {e : TypeId} {sz bytes : Nat} (HE : ElemT P t e sz bytes)
  {A : Option Addr} {n c : Nat} {xs : List Value} (hown : w.ownsRow base e sz (.slice A n c) n xs) (hs : a.eval s = .slice A n c)
  {B : Nat} {A2 : Option Addr} {m c2 : Nat} {news : List Value} (hr : Sl w B sz A2 m news) (hx : a.eval x = .slice A2 m c2) (h1 : ∀ u ∈ news, u.oneCell' = true)
  (h63 : (n + m) * bytes ≤ 140737488355328) (hmx : n + m ≤ 140737488355328) (hbase : base ≤ w.heap.size)
  (h : ∀ A' c' w', w'.ownsRow base e sz (.slice A' (n + m) c') (n + m) (xs ++ news) → w.grownBy w' (A.map Addr.block) → (A'.map Addr.block = A.map Addr.block ∨ A'.map Addr.block = some w.heap.size) → wpList P ops Q rest (a.put o.dst (.slice A' (n + m) c')) w') : wpList P ops Q (o :: rest) a w := by
 obtain ⟨i, z, hi, hz, hsz, hby, hzs, h0⟩ := HE.hi;exact wpl_app w hgd s x t ho base e i z sz bytes HE.ht hi hz hsz hby hzs h0 A n c xs hs hown B A2 m c2 news hx hr h1 (by simp only [maxLen]; omega) h63 hbase h
theorem wpl_app1 {P : Program} {w : World} {ops : Array Oper} {rest : List Oper} {o : Oper} {a : Act} {Q : Exit → Act → World → Prop} (hgd : o.guard = none) {s x : Operand} {t : TypeId}
  (ho : o.op = .call { callee := .builtin .append, args := #[s, x], argTypes := #[t, t] })
  {base : Nat} {e : TypeId} {sz bytes : Nat} (HE : ElemT P t e sz bytes)
  {A : Option Addr} {n c : Nat} {xs : List Value} (hown : w.ownsRow base e sz (.slice A n c) n xs) (hs : a.eval s = .slice A n c)
  {m : Nat} {cs : Array Value} (hx : a.eval x = .slice (some ⟨w.heap.size, 0, none⟩) m m) (hcs : cs.size = m * sz) (h1 : ∀ u ∈ cs.toList, u.oneCell' = true)
  (h63 : (n + m) * bytes ≤ 140737488355328) (hmx : n + m ≤ 140737488355328) (hbase : base ≤ w.heap.size)
  (h : ∀ A' c' w', w'.ownsRow base e sz (.slice A' (n + m) c') (n + m) (xs ++ cs.toList) → w.grownBy w' (A.map Addr.block) → (A'.map Addr.block = A.map Addr.block ∨ A'.map Addr.block = some (w.heap.size + 1)) → wpList P ops Q rest (a.put o.dst (.slice A' (n + m) c')) w') : wpList P ops Q (o :: rest) a (w.alloc (.cells cs e)) := by
 refine wpl_apps hgd ho HE (own_alloc hown (.cells cs e)) hs (Sl.lit w cs e m hcs) hx h1 h63 hmx (by simp; omega) fun A' c' w' h2 h3 h4 => h A' c' w' h2 ?_ ?_
 ·have hz : (w.alloc (.cells cs e)).heap.size = w.heap.size + 1 := by simp
  exact ⟨h3.os, h3.tape, h3.output, by have := h3.size; omega, fun k hk hne => (h3.block k (by omega) hne).trans (Below.heap_alloc w _ k hk)⟩
 ·simpa using h4
theorem below_grown {B : Nat} {w0 w w' : World} {A : Option Addr} (h : Below B w0 w) (hg : w.grownBy w' (A.map Addr.block)) (hB : B ≤ w.heap.size) (hr : ∀ g, A.map Addr.block = some g → B ≤ g) : Below B w0 w' :=
 h.grown hg hB hr
theorem own_from {w : World} {base : Nat} {e : TypeId} {sz n c : Nat} {A : Option Addr} {xs : List Value} (h : w.ownsRow base e sz (.slice A n c) n xs) : ∀ g, A.map Addr.block = some g → base ≤ g := by
 rcases h.2 with ⟨hv, _⟩ | ⟨g, cap, cur, hv, hb, _⟩
 ·injection hv with hA; subst hA; intro g hg; cases hg
 ·injection hv with hA; subst hA; intro g' hg; cases hg; exact hb
end Go.Proofs.Ytobmldegjajocaa
namespace Go.Proofs.Ytobmldegjajocaa
open Go.RowKit
theorem cells_u8 : Try.prog.cellsOf 5 = 1 := by kernel_rfl
theorem cells_u64 : Try.prog.cellsOf 24 = 1 := by kernel_rfl
theorem cells_id : Try.prog.cellsOf 29 = 32 := by kernel_rfl
theorem cells_int : Try.prog.cellsOf 3 = 1 := by kernel_rfl
theorem cells_point : Try.prog.cellsOf 103 = 33 := by kernel_rfl
theorem row_point : RowT Try.prog 103 33 := ⟨_, Try.underlying103, by kernel_rfl, by kernel_rfl⟩
theorem row_aid : RowT Try.prog 29 32 := ⟨_, Try.underlying29, by kernel_rfl, by kernel_rfl⟩
end Go.Proofs.Ytobmldegjajocaa

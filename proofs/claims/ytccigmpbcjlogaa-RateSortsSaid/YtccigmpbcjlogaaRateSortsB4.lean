/- Blocks that hold n cells, cells of one word, a row of one struct, one cell written. No program in sight. -/
import Derived.Test.YtccigmpbcjlogaaRateSortsB3
import Derived.Laws.FloatArith
import Derived.Test.YtccigmpbcjlogaaRows
import Derived.Test.YtccigmpbcjlogaaRateSortsB1
import Derived.OpenShut
set_option linter.unusedSimpArgs false
/- Blocks that hold n cells, cells of one word, a row of one struct, one cell written. No program in sight. -/
namespace Go.Proofs.Ytccigmpbcjlogaa
open Go.RowKit
set_option linter.unusedVariables false
set_option linter.unusedSimpArgs false
theorem wanted_none {o : Oper} {y : Nat → Option Bool} (h : o.guard = none) : Region.wanted o y = true := by unfold Region.wanted; rw [h]
/-- A block that holds n cells. -/
def At (w : World) (g : Nat) (T : TypeId) (n : Nat) (xs : List Value) : Prop := Blk w g T xs ∧ xs.length = n
theorem at_mk {w : World} {g : Nat} {T : TypeId} {n : Nat} {xs : List Value} (h : Blk w g T xs) (hn : xs.length = n) : At w g T n xs := ⟨h, hn⟩
theorem At.blk {w : World} {g : Nat} {T : TypeId} {n : Nat} {xs : List Value} (h : At w g T n xs) : Blk w g T xs := h.1
theorem At.len {w : World} {g : Nat} {T : TypeId} {n : Nat} {xs : List Value} (h : At w g T n xs) : xs.length = n := h.2
theorem At.grow {w w' : World} {g : Nat} {T : TypeId} {n : Nat} {xs : List Value} (h : At w g T n xs) (k : Grow w w') : At w' g T n xs := ⟨h.1.grow k, h.2⟩
theorem At.sl {w : World} {g : Nat} {T : TypeId} {n : Nat} {xs : List Value} (h : At w g T n xs) : Sl w w.heap.size 1 (some ⟨g, 0, none⟩) n xs := h.1.sl (by rw [h.2]; omega)
theorem At.lt {w : World} {g : Nat} {T : TypeId} {n : Nat} {xs : List Value} (h : At w g T n xs) : g < w.heap.size := h.1.lt
theorem At.off {w w' : World} {g g2 : Nat} {T : TypeId} {n : Nat} {xs : List Value} (h : At w g T n xs) (k : w.grownBy w' (some g2)) (hne : g ≠ g2) : At w' g T n xs := ⟨h.1.grown k (by simpa using hne), h.2⟩
theorem var_grow {w w1 w2 : World} (h1 : Below w.heap.size w w1) (hz : w1.heap.size = w.heap.size + 1) (hg : w1.grownBy w2 (some w.heap.size)) : Grow w w2 :=
  h1.grown hg (by omega) (by intro g hg; cases hg; exact Nat.le_refl _)
theorem put_below {w0 w w2 : World} {g : Nat} (h : Below w0.heap.size w0 w) (hg : w0.heap.size ≤ g) (k : w.grownBy w2 (some g)) : Below w0.heap.size w0 w2 :=
  h.grown k h.size (by intro q hq; cases hq; exact hg)
/-- n cells, each one. -/
def Cl (n : Nat) (xs : List Value) : Prop := xs.length = n ∧ ∀ u ∈ xs, u.oneCell' = true
theorem Cl.len {n : Nat} {xs : List Value} (h : Cl n xs) : xs.length = n := h.1
theorem Cl.one {n : Nat} {xs : List Value} (h : Cl n xs) : ∀ u ∈ xs, u.oneCell' = true := h.2
section
variable {P : Program} {ops : Array Oper} {rest : List Oper} {o : Oper} {a : Act} {w : World} {Q : Exit → Act → World → Prop}
theorem wpl_store1 (hgd : o.guard = none) {T : TypeId} {x y : Operand} (ho : o.op = .store T x y) {g i : Nat} {t : TypeId} {cs : List Value} {v : Value} (hb : Blk w g t cs) (hx : a.eval x = .pointer (some ⟨g, i, none⟩)) (hy : a.eval y = v)
    (hT : (P.info? T).map (·.size) = some 1) (hv : v.cells = #[v]) (h1 : v.oneCell' = true) (hi : i < cs.length)
    (h : ∀ w', Blk w' g t (cs.set i v) → w.grownBy w' (some g) → w'.heap.size = w.heap.size → wpList P ops Q rest (a.put o.dst undef) w') : wpList P ops Q (o :: rest) a w := by
  refine wpList_plain hgd fun K hK => ?_
  have hc := hb.at_ (List.getElem?_eq_getElem hi)
  have hf := hb.frozen i
  have hrun : (Instr.storeAt T (.pointer (some ⟨g, i, none⟩)) v).run P w = .ok () (w.setCell ⟨g, i, none⟩ v) := by
    obtain ⟨inf, hi2, hs⟩ := Option.map_eq_some_iff.1 hT
    have e0 : Addr.add ⟨g, i, none⟩ 0 = ⟨g, i, none⟩ := by rw [Addr.add_lit]; rfl
    have e1 : (store ⟨g, i, none⟩ v).run P w = .ok () (w.setCell ⟨g, i, none⟩ v) := by rw [run_store _ _ _ _ _ h1]; simp [stored, hc, hf]
    simp [Instr.storeAt, Instr.sureAddr, storeVar, sizeOf, typeInfo, hi2, hs, hv, storeCells, e0, e1]
  unfold Oper.wp execOp
  simp only [ho, hx, hy, Sem.run_bind, hrun, Result.andThen_ok, Sem.run_pure]
  exact hK _ _ (h _ (hb.set_ i v) (grown_set w g i v) (by simp))
end
theorem run_row1 {P : Program} {w : World} {t e : TypeId} {sz bytes : Nat} (HE : ElemT P t e sz bytes) {ys : List Value} (hl : ys.length = sz) (h24 : sz ≤ 16777216) :
    (Instr.buildSlice t 1 #[(0, .agg ys.toArray)]).run P w = .ok (.slice (some ⟨w.heap.size, 0, none⟩) 1 1) (w.alloc (.cells ys.toArray e)) := by
  obtain ⟨i, z, hi, hz, hsz, hby, hzs, h0⟩ := HE.hi
  have h1 : ¬ (16777216 < i.size) := by omega
  have h2 : ¬ (i.size = 0) := by omega
  have hf : Instr.fill (fun k => some (k * i.size, i.size)) ((Array.range i.size).map fun k => z.cells[k % z.cells.size]!) [(0, .agg ys.toArray)] = some ys.toArray := by
    obtain ⟨cs, hcs⟩ : ∃ cs : List Value, cs = ((Array.range i.size).map fun k => z.cells[k % z.cells.size]!).toList := ⟨_, rfl⟩
    have e1 : ((Array.range i.size).map fun k => z.cells[k % z.cells.size]!) = cs.toArray := by rw [hcs]
    have hcl : cs.length = i.size := by rw [hcs]; simp
    rw [e1, fill_cons (off := 0) (s := i.size) (cs := ys) (by simp) rfl (by omega) (by omega), fill_nil]
    congr 2
    unfold splice
    rw [List.drop_of_length_le (by omega)]; simp
  simp [Instr.buildSlice, run_underlying HE.ht, sizeOf, typeInfo, zeroValue, hi, hz, h1, h2, hf, newRow]
theorem wpl_row1 {P : Program} {w : World} {ops : Array Oper} {rest : List Oper} {o : Oper} {a : Act} {Q : Exit → Act → World → Prop} (hgd : o.guard = none) {t : TypeId} {x : Operand} (ho : o.op = .buildSlice t 1 #[(0, x)]) {e : TypeId} {sz bytes : Nat} (HE : ElemT P t e sz bytes) {ys : List Value}
    (hx : a.eval x = .agg ys.toArray) (hl : ys.length = sz) (h24 : sz ≤ 16777216)
    (h : ∀ w', Blk w' w.heap.size e ys → Grow w w' → w'.heap.size = w.heap.size + 1 → wpList P ops Q rest (a.put o.dst (.slice (some ⟨w.heap.size, 0, none⟩) 1 1)) w') : wpList P ops Q (o :: rest) a w := by
  refine wpList_plain hgd fun K hK => ?_
  have hr := run_row1 (P := P) (w := w) HE hl h24
  obtain ⟨n1, n2, n3⟩ := alloc_new w ys.toArray e
  unfold Oper.wp execOp
  simp only [ho, List.map_toArray, List.map_cons, List.map_nil, hx, Sem.run_bind, hr, Result.andThen_ok, Sem.run_pure]
  exact hK _ _ (h _ n1 n2 n3)
theorem wpl_buildw {P : Program} {ops : Array Oper} {rest : List Oper} {o : Oper} {a : Act} {w : World} {Q : Exit → Act → World → Prop} (hw : Region.wanted o (yielded ops a.tmps) = true) {t : TypeId} {parts : Array (Nat × Operand)} (ho : o.op = .build t parts) {cells : List Value} (h : P.built t (parts.toList.map fun (i, x) => (i, a.eval x)) = some cells.toArray)
    (hk : wpList P ops Q rest (a.put o.dst (.agg cells.toArray)) w) : wpList P ops Q (o :: rest) a w := by
  refine wpl_wanted hw fun K hK => ?_
  unfold Oper.wp
  rw [exec_build ho h w]
  exact hK _ _ hk
theorem wpl_loadmw {P : Program} {ops : Array Oper} {rest : List Oper} {o : Oper} {a : Act} {w : World} {Q : Exit → Act → World → Prop} (hw : Region.wanted o (yielded ops a.tmps) = true) {T : TypeId} {x : Operand} (ho : o.op = .load T x) {n : Nat} (hT : RowT P T n) {b off : Nat} {cs : List Value} (hc : ∀ j u, cs[j]? = some u → w.cell? ⟨b, off + j, none⟩ = some u) (hx : a.eval x = .pointer (some ⟨b, off, none⟩)) (hn : cs.length = n)
    (h : wpList P ops Q rest (a.put o.dst (.agg cs.toArray)) w) : wpList P ops Q (o :: rest) a w := by
  refine wpl_wanted hw fun K hK => ?_
  obtain ⟨d, hu, hd, hi⟩ := hT
  have hrun := run_loadVar_mid (P := P) w b off T cs d hc hu (by cases d <;> simp_all) (by rw [hi, hn])
  unfold Oper.wp execOp
  simp only [ho, hx, Instr.loadAt, Instr.sureAddr, Sem.run_bind, Sem.run_pure, Result.andThen_ok, hrun]
  exact hK _ _ h
def MidAt (w : World) (b off : Nat) (cs : List Value) : Prop := ∀ j u, cs[j]? = some u → w.cell? ⟨b, off + j, none⟩ = some u
theorem MidAt.grow {w w' : World} {b off : Nat} {cs : List Value} (h : MidAt w b off cs) (k : Grow w w') : MidAt w' b off cs := fun j u hu => bcell k (h j u hu)
end Go.Proofs.Ytccigmpbcjlogaa

/- Floats as numbers: how two words of 64 bits compare, and the order by key; no program in sight. -/
namespace Go.Proofs.Ytccigmpbcjlogaa
open Ieee
set_option linter.unusedVariables false

/-- The magnitude of a rung, in units of the least place. -/
def V (r : Nat) : Nat := if r < 2^52 then r else (2^52 + r % 2^52) * 2 ^ (r / 2^52 - 1)

theorem V_step (r : Nat) : V r < V (r + 1) := by
  unfold V
  by_cases h : r + 1 < 2^52
  · rw [if_pos h, if_pos (by omega)]; omega
  · by_cases h2 : r < 2^52
    · obtain rfl : r = 2^52 - 1 := by omega
      decide
    · rw [if_neg h, if_neg h2]
      by_cases h3 : (r + 1) % 2^52 = 0
      · have e1 : (r + 1) / 2^52 = r / 2^52 + 1 := by omega
        have e2 : r % 2^52 = 2^52 - 1 := by omega
        rw [h3, e1, e2, show r / 2^52 + 1 - 1 = (r / 2^52 - 1) + 1 by omega, Nat.pow_succ (m := r / 2^52 - 1)]
        have hp : 0 < 2 ^ (r / 2^52 - 1) := Nat.pow_pos (by omega)
        generalize 2 ^ (r / 2^52 - 1) = p at *
        clear e1 e2 h3 h h2
        omega
      · have e1 : (r + 1) / 2^52 = r / 2^52 := by omega
        have e2 : (r + 1) % 2^52 = r % 2^52 + 1 := by omega
        rw [e1, e2]
        exact Nat.mul_lt_mul_of_pos_right (by omega) (Nat.pow_pos (by omega))

theorem V_lt {r s : Nat} (h : r < s) : V r < V s := by
  induction s with
  | zero => omega
  | succ s ih =>
    rcases Nat.lt_or_ge r s with h1 | h1
    · exact Nat.lt_trans (ih h1) (V_step s)
    · obtain rfl : r = s := by omega
      exact V_step r
theorem V_le {r s : Nat} (h : r ≤ s) : V r ≤ V s := by
  rcases Nat.lt_or_ge r s with h1 | h1
  · exact Nat.le_of_lt (V_lt h1)
  · obtain rfl : r = s := by omega
    exact Nat.le_refl _
theorem V_inj {r s : Nat} (h : V r = V s) : r = s := by
  rcases Nat.lt_trichotomy r s with h1 | h1 | h1
  · have := V_lt h1; omega
  · exact h1
  · have := V_lt h1; omega

/-- A word's rung. -/
def rung (x : Nat) : Nat := x % 2^63
def inf : Nat := 2047 * 2^52
def nanB (x : Nat) : Bool := decide (inf < rung x)
def negB (x : Nat) : Bool := decide (2^63 ≤ x)
/-- A word's value, signed, in units of the least place; infinities stand beyond all numbers. -/
def sv (x : Nat) : Int := if negB x then -(V (rung x) : Int) else (V (rung x) : Int)

theorem signW : double.signWeight = 2^63 := rfl
theorem binadeW : double.binade = 2^52 := rfl
theorem infW : double.infRung = inf := rfl

theorem neg_of {x : Nat} (h : x < 2^64) : (x / 2^63 % 2 == 1) = negB x := by
  unfold negB
  by_cases hx : 2^63 ≤ x
  · have : x / 2^63 = 1 := by omega
    rw [this]; simp [hx]
  · have : x / 2^63 = 0 := by omega
    rw [this]; simp [hx]

/-- What a word reads as. -/
inductive RdF (x : Nat) : Datum → Prop where
  | num (m : Nat) (k : Nat) (hr : rung x < inf) (hv : m * 2 ^ k = V (rung x)) : RdF x (.number (negB x) m (double.leastPlace + (k : Nat)))
  | inf (hr : rung x = inf) : RdF x (.infinity (negB x))
  | nan (hr : inf < rung x) (t : Nat) : RdF x (.nan (negB x) t)

theorem rd (x : Nat) (h : x < 2^64) : RdF x (double.read x) := by
  unfold Format.read
  rw [signW, binadeW, infW, neg_of h]
  show RdF x (if rung x < 2^52 then _ else _)
  by_cases h1 : rung x < 2^52
  · rw [if_pos h1]
    have := RdF.num (x := x) (rung x) 0 (by unfold inf; omega) (by unfold V; rw [if_pos h1]; omega)
    rwa [show ((0 : Nat) : Int) = 0 from rfl, Int.add_zero] at this
  · rw [if_neg h1]
    show RdF x (if rung x < inf then _ else _)
    by_cases h2 : rung x < inf
    · rw [if_pos h2]
      exact RdF.num (x := x) (2^52 + rung x % 2^52) (rung x / 2^52 - 1) h2 (by unfold V; rw [if_neg h1])
    · rw [if_neg h2]
      show RdF x (if rung x = inf then _ else _)
      by_cases h3 : rung x = inf
      · rw [if_pos h3]; exact RdF.inf h3
      · rw [if_neg h3]; exact RdF.nan (by omega) _

theorem signed_scale (s : Bool) (m i b : Nat) (h : b ≤ i) : signed s m (i - b) * 2 ^ b = signed s (m <<< i) 0 := by
  unfold signed
  have : m <<< (i - b) * 2 ^ b = m <<< i := by
    rw [Nat.shiftLeft_eq, Nat.shiftLeft_eq, Nat.mul_assoc, ← Nat.pow_add, show i - b + b = i by omega]
  cases s
  · simp only [Bool.false_eq_true, if_false, Nat.shiftLeft_zero]; rw [← this]; simp
  · simp only [if_true, Nat.shiftLeft_zero]; rw [← this]; simp [Int.neg_mul]

theorem cmp_scale (a b : Int) (k : Nat) : compare (a * 2 ^ k) (b * 2 ^ k) = compare a b := by
  have hp : (0 : Int) < 2 ^ k := Int.pow_pos (by omega)
  simp only [compare, compareOfLessAndEq]
  have h1 : a * 2 ^ k < b * 2 ^ k ↔ a < b := ⟨fun h => Int.lt_of_mul_lt_mul_right h (Int.le_of_lt hp), fun h => Int.mul_lt_mul_of_pos_right h hp⟩
  have h2 : a * 2 ^ k = b * 2 ^ k ↔ a = b := ⟨fun h => Int.eq_of_mul_eq_mul_right (by omega) h, fun h => by rw [h]⟩
  simp [h1, h2]

theorem sv_signed (x m k : Nat) (hv : m * 2 ^ k = V (rung x)) : signed (negB x) (m <<< k) 0 = sv x := by
  unfold signed sv
  rw [Nat.shiftLeft_zero, Nat.shiftLeft_eq, hv]

theorem sv_inf {x : Nat} (h : rung x = inf) : sv x = if negB x then -(V inf : Int) else (V inf : Int) := by unfold sv; rw [h]
theorem sv_fin {x : Nat} (h : rung x < inf) : -(V inf : Int) < sv x ∧ sv x < V inf := by
  have := V_lt h
  unfold sv
  generalize V inf = c at *
  split <;> omega

theorem cmp_lt {a b : Int} (h : a < b) : compare a b = .lt := by simp [compare, compareOfLessAndEq, h]
theorem cmp_gt {a b : Int} (h : b < a) : compare a b = .gt := by
  have h1 : ¬ a < b := by omega
  have h2 : ¬ a = b := by omega
  simp [compare, compareOfLessAndEq, h1, h2]
theorem cmp_eq {a b : Int} (h : a = b) : compare a b = .eq := by simp [compare, compareOfLessAndEq, h]

/-- How two words compare: by their values, where neither is a NaN. -/
theorem order_eq {x y : Nat} (hx : x < 2^64) (hy : y < 2^64) :
    double.order x y = if nanB x || nanB y then none else some (compare (sv x) (sv y)) := by
  have h1 := rd x hx
  have h2 := rd y hy
  unfold Format.order
  generalize double.read x = dx at *
  generalize double.read y = dy at *
  have hpos : (0 : Int) < V inf := by
    have : V 0 < V inf := V_lt (by unfold inf; omega)
    omega
  cases h1 with
  | nan hr t =>
    have : nanB x = true := by simp [nanB, hr]
    rw [this]; rfl
  | inf hr =>
    have e1 : nanB x = false := by simp [nanB, hr]
    have e2 := sv_inf hr
    cases h2 with
    | nan hr2 t =>
      have : nanB y = true := by simp [nanB, hr2]
      rw [this, e1]; rfl
    | inf hr2 =>
      have e3 : nanB y = false := by simp [nanB, hr2]
      have e4 := sv_inf hr2
      rw [e1, e3, e2, e4]
      generalize V inf = c at *
      show some (compare (negB y).toNat (negB x).toNat) = some _
      cases negB x <;> cases negB y
      · simp
      · simp only [Bool.false_eq_true, if_false, if_true]; rw [cmp_gt (by omega)]; rfl
      · simp only [Bool.false_eq_true, if_false, if_true]; rw [cmp_lt (by omega)]; rfl
      · simp
    | num m k hr2 hv =>
      have e3 : nanB y = false := by simp [nanB]; omega
      have e4 := sv_fin hr2
      rw [e1, e3, e2]
      generalize sv y = s at *
      generalize V inf = c at *
      show some (if negB x then Ordering.lt else .gt) = some _
      cases negB x
      · simp only [Bool.false_eq_true, if_false]; rw [cmp_gt (by omega)]
      · simp only [if_true]; rw [cmp_lt (by omega)]
  | num m k hr hv =>
    have e1 : nanB x = false := by simp [nanB]; omega
    have e2 := sv_fin hr
    cases h2 with
    | nan hr2 t =>
      have : nanB y = true := by simp [nanB, hr2]
      rw [this, e1]; rfl
    | inf hr2 =>
      have e3 : nanB y = false := by simp [nanB, hr2]
      have e4 := sv_inf hr2
      rw [e1, e3, e4]
      generalize sv x = s at *
      generalize V inf = c at *
      show some (if negB y then Ordering.gt else .lt) = some _
      cases negB y
      · simp only [Bool.false_eq_true, if_false]; rw [cmp_lt (by omega)]
      · simp only [if_true]; rw [cmp_gt (by omega)]
    | num n j hr2 hv2 =>
      have e3 : nanB y = false := by simp [nanB]; omega
      rw [e1, e3]
      show some (compare (signed (negB x) m (double.leastPlace + (k : Int) - min (double.leastPlace + (k : Int)) (double.leastPlace + (j : Int))).toNat) (signed (negB y) n (double.leastPlace + (j : Int) - min (double.leastPlace + (k : Int)) (double.leastPlace + (j : Int))).toNat)) = some _
      congr 1
      have a1 : (double.leastPlace + (k : Int) - min (double.leastPlace + (k : Int)) (double.leastPlace + (j : Int))).toNat = k - min k j := by omega
      have a2 : (double.leastPlace + (j : Int) - min (double.leastPlace + (k : Int)) (double.leastPlace + (j : Int))).toNat = j - min k j := by omega
      rw [a1, a2, ← cmp_scale _ _ (min k j), signed_scale _ _ _ _ (by omega), signed_scale _ _ _ _ (by omega), sv_signed _ _ _ hv, sv_signed _ _ _ hv2]

theorem V_iff {r s : Nat} : V r < V s ↔ r < s := by
  refine ⟨fun h => ?_, V_lt⟩
  rcases Nat.lt_or_ge r s with h1 | h1
  · exact h1
  · have := V_le h1; omega

/-! ### What Go's tests on floats say -/
def ltF (x y : Nat) : Bool := !(nanB x || nanB y) && decide (sv x < sv y)
def eqF (x y : Nat) : Bool := !(nanB x || nanB y) && decide (sv x = sv y)

section
variable (x y : Nat) (hx : x < 2^64) (hy : y < 2^64)
include hx hy
theorem order_f64 : FloatKind.f64.format.order x y = if nanB x || nanB y then none else some (compare (sv x) (sv y)) := order_eq hx hy
theorem ord_lt : (FloatKind.f64.format.order x y == some .lt) = ltF x y := by
  rw [order_f64 x y hx hy]; unfold ltF
  cases nanB x || nanB y
  · simp only [Bool.false_eq_true, if_false]
    rcases Int.lt_trichotomy (sv x) (sv y) with h | h | h
    · rw [cmp_lt h]; simp [h]
    · rw [cmp_eq h]; simp [h]
    · rw [cmp_gt h]; simp; omega
  · simp
theorem ord_gt : (FloatKind.f64.format.order x y == some .gt) = ltF y x := by
  rw [order_f64 x y hx hy]; unfold ltF
  rw [Bool.or_comm]
  cases nanB y || nanB x
  · simp only [Bool.false_eq_true, if_false]
    rcases Int.lt_trichotomy (sv x) (sv y) with h | h | h
    · rw [cmp_lt h]; simp; omega
    · rw [cmp_eq h]; simp [h]
    · rw [cmp_gt h]; simp [h]
  · simp
theorem ord_eq : (FloatKind.f64.format.order x y == some .eq) = eqF x y := by
  rw [order_f64 x y hx hy]; unfold eqF
  cases nanB x || nanB y
  · simp only [Bool.false_eq_true, if_false]
    rcases Int.lt_trichotomy (sv x) (sv y) with h | h | h
    · rw [cmp_lt h]; simp; omega
    · rw [cmp_eq h]; simp [h]
    · rw [cmp_gt h]; simp; omega
  · simp
theorem ord_ne : (FloatKind.f64.format.order x y != some .eq) = !(eqF x y) := by rw [bne, ord_eq x y hx hy]
end
theorem eqF_self (x : Nat) : eqF x x = !(nanB x) := by simp [eqF]

/-! ### Keys -/
def keyF (x : Nat) : Nat := if nanB x then 0 else if 2^63 ≤ x then 1 + (2^64 - 1 - x) else 1 + (x + 2^63)
def cmpN (x y : Nat) : Int := if x < y then -1 else if y < x then 1 else 0
def cmpI (x y : Int) : Int := if x < y then -1 else if y < x then 1 else 0
def cmpK (x y : Nat) : Int := cmpN (keyF x) (keyF y)
def sgnF (x : Nat) : Int := if eqF x 0 then (if negB x then -1 else 1) else 0
def cmpF (x y : Nat) : Int := if nanB x then (if nanB y then 0 else -1) else if nanB y then 1 else if ltF x y then -1 else if ltF y x then 1 else 0
def rcmp (x y : Nat) : Int := if cmpF x y = 0 then cmpI (sgnF x) (sgnF y) else cmpF x y

theorem keyF_nan {x : Nat} (h : nanB x = true) : keyF x = 0 := by unfold keyF; rw [if_pos h]
theorem keyF_num {x : Nat} (hx : x < 2^64) (h : nanB x = false) : keyF x = if negB x then 2^63 - rung x else 2^63 + 1 + rung x := by
  unfold keyF negB rung
  rw [h]
  simp only [Bool.false_eq_true, if_false, decide_eq_true_eq]
  split <;> omega
theorem rung_le {x : Nat} (h : nanB x = false) : rung x ≤ inf := by
  unfold nanB at h
  have := of_decide_eq_false h
  omega
theorem inf_lt : inf < 2^63 := by decide

theorem nan_zero : nanB 0 = false := by decide
theorem sv_zero : sv 0 = 0 := by decide
theorem V_zero : V 0 = 0 := by decide
theorem V_pos {r : Nat} (h : 0 < r) : 0 < V r := by have := V_lt h; rw [V_zero] at this; exact this

theorem sgnF_num {x : Nat} (h : nanB x = false) : sgnF x = if rung x = 0 then (if negB x then -1 else 1) else 0 := by
  unfold sgnF eqF
  rw [h, nan_zero, sv_zero]
  by_cases hr : rung x = 0
  · have : sv x = 0 := by unfold sv; rw [hr, V_zero]; split <;> rfl
    simp [this, hr]
  · have hp := V_pos (Nat.pos_of_ne_zero hr)
    have : ¬ sv x = 0 := by
      unfold sv
      generalize V (rung x) = c at *
      split <;> omega
    simp [this, hr]
theorem sgnF_nan {x : Nat} (h : nanB x = true) : sgnF x = 0 := by
  unfold sgnF eqF; rw [h]; simp

theorem rcmp_eq (x y : Nat) (hx : x < 2^64) (hy : y < 2^64) : rcmp x y = cmpK x y := by
  unfold rcmp cmpK cmpF
  cases h1 : nanB x
  · have k1 := keyF_num hx h1
    have r1 := rung_le h1
    have i1 := inf_lt
    cases h2 : nanB y
    · have k2 := keyF_num hy h2
      have r2 := rung_le h2
      have s1 := sgnF_num h1
      have s2 := sgnF_num h2
      rw [k1, k2, s1, s2]
      simp only [Bool.false_eq_true, if_false, ltF, h1, h2, Bool.or_self, Bool.not_false, Bool.true_and, decide_eq_true_eq]
      unfold sv
      have v1 : 0 < rung x → 0 < V (rung x) := V_pos
      have v2 : 0 < rung y → 0 < V (rung y) := V_pos
      have z1 : rung x = 0 → V (rung x) = 0 := fun h => by rw [h, V_zero]
      have z2 : rung y = 0 → V (rung y) = 0 := fun h => by rw [h, V_zero]
      have m1 := @V_iff (rung x) (rung y)
      have m2 := @V_iff (rung y) (rung x)
      generalize V (rung x) = c at *
      generalize V (rung y) = d at *
      generalize rung x = r at *
      generalize rung y = s at *
      generalize inf = i at *
      clear h1 h2 k1 k2 s1 s2 hx hy
      unfold cmpI cmpN
      cases negB x <;> cases negB y <;> simp only [Bool.false_eq_true, if_false, if_true] <;> (repeat' split) <;> omega
    · rw [keyF_nan h2, k1]
      simp only [Bool.false_eq_true, if_false, if_true]
      unfold cmpN
      rw [if_neg (by omega), if_neg (by omega)]
      split <;> (repeat' split) <;> omega
  · rw [keyF_nan h1]
    cases h2 : nanB y
    · have k2 := keyF_num hy h2
      have r2 := rung_le h2
      have i1 := inf_lt
      rw [k2]
      simp only [Bool.false_eq_true, if_false, if_true]
      unfold cmpN
      rw [if_neg (by omega)]
      split <;> (repeat' split) <;> omega
    · rw [keyF_nan h2, sgnF_nan h1, sgnF_nan h2]
      simp [cmpN, cmpI]

theorem cmpN_neg (a b : Nat) : cmpN a b = -(cmpN b a) := by unfold cmpN; (repeat' split) <;> omega
theorem cmpN_self (a : Nat) : cmpN a a = 0 := by unfold cmpN; (repeat' split) <;> omega
theorem cmpN_range (a b : Nat) : -1 ≤ cmpN a b ∧ cmpN a b ≤ 1 := by unfold cmpN; (repeat' split) <;> omega
theorem cmpN_three (a b c : Nat) (h1 : cmpN a b ≤ 0) (h2 : cmpN b c ≤ 0) : cmpN a c ≤ 0 := by
  unfold cmpN at *; (repeat' split) <;> (repeat' split at h1) <;> (repeat' split at h2) <;> omega
theorem cmpN_same (a b c : Nat) (h1 : cmpN a b = 0) : cmpN a c = cmpN b c := by
  unfold cmpN at *; (repeat' split) <;> (repeat' split at h1) <;> omega
theorem small_le {x : Nat} (h : nanB x = false) (h2 : x < 2^63) : x ≤ 9218868437227405312 := by
  have h1 := rung_le h
  unfold rung inf at h1
  omega
theorem rung_small {x : Nat} (h : x < 2^63) : rung x = x := by unfold rung; omega
theorem neg_small {x : Nat} (h : x < 2^63) : negB x = false := by unfold negB; rw [decide_eq_false_iff_not]; omega
theorem inf_val : inf = 9218868437227405312 := by decide
theorem nan_small {x : Nat} (h : x ≤ 9218868437227405312) : nanB x = false := by unfold nanB; rw [rung_small (by omega), inf_val, decide_eq_false_iff_not]; omega
theorem key_small {x : Nat} (h : x ≤ 9218868437227405312) : keyF x = 1 + (x + 2^63) := by
  rw [keyF, nan_small h, if_neg (by simp), if_neg (by omega)]
theorem plain_small {x : Nat} (h : x < 9218868437227405312) : nanB x = false ∧ eqF x 0 = decide (x = 0) ∧ negB x = false := by
  refine ⟨nan_small (by omega), ?_, neg_small (by omega)⟩
  rw [eqF, nan_small (by omega), nan_zero, sv_zero, sv, neg_small (by omega), rung_small (by omega)]
  rw [Bool.eq_iff_iff]
  simp only [Bool.false_eq_true, if_false, Bool.or_self, Bool.not_false, Bool.true_and, decide_eq_true_eq]
  constructor
  · intro h2
    rcases Nat.eq_zero_or_pos x with h3 | h3
    · exact h3
    · have := V_pos h3; omega
  · intro h2; rw [h2, V_zero]; rfl
attribute [irreducible] V rung inf nanB negB sv ltF eqF keyF sgnF cmpF cmpK
end Go.Proofs.Ytccigmpbcjlogaa

/- Contracts of rate.Compare and its reference. -/
namespace Go.Proofs.Ytccigmpbcjlogaa
open Go.RowKit
set_option linter.unusedVariables false

theorem isnan_f (x : Nat) (w : World) (hx : x < 2^64) : Calls Try.prog 26 #[.float .f64 x] w fun e w' => e = .returned (.bool (nanB x)) ∧ w = w' := by
  have h := ord_ne x x hx hx
  rw [eqF_self, Bool.not_not] at h
  go_enter Try.func26, Try.ntmps26
  go_wp2
  go_ret
  exact ⟨rfl, rfl⟩
theorem isnan_i (x : Int) (w : World) : Calls Try.prog 27 #[.int .i64 x] w fun e w' => e = .returned (.bool false) ∧ w = w' := by
  go_enter Try.func27, Try.ntmps27
  go_wp2
  go_ret
  exact ⟨by simp, rfl⟩
theorem cmpi_any (x y : Int) (w : World) : Calls Try.prog 22 #[.int .i64 x, .int .i64 y] w fun e w' => e = .returned (.int .i64 (cmpI x y)) ∧ w = w' := by
  unfold cmpI
  by_cases h1 : x < y
  · rw [if_pos h1]
    go_enter Try.func22, Try.ntmps22
    go_wp2_with (go_at_call 27; refine (isnan_i _ _).mono ?_; rintro e w' ⟨rfl, rfl⟩)
    go_ret
    exact ⟨rfl, rfl⟩
  · rw [if_neg h1]
    by_cases h2 : y < x
    · rw [if_pos h2]
      go_enter Try.func22, Try.ntmps22
      go_wp2_with (go_at_call 27; refine (isnan_i _ _).mono ?_; rintro e w' ⟨rfl, rfl⟩)
      go_ret
      exact ⟨rfl, rfl⟩
    · rw [if_neg h2]
      go_enter Try.func22, Try.ntmps22
      go_wp2_with (go_at_call 27; refine (isnan_i _ _).mono ?_; rintro e w' ⟨rfl, rfl⟩)
      go_ret
      exact ⟨rfl, rfl⟩
theorem cmpf_any (x y : Nat) (w : World) (hx : x < 2^64) (hy : y < 2^64) : Calls Try.prog 21 #[.float .f64 x, .float .f64 y] w fun e w' => e = .returned (.int .i64 (cmpF x y)) ∧ w = w' := by
  rw [cmpF]
  have i1 := fun w => isnan_f x w hx
  have i2 := fun w => isnan_f y w hy
  have l1 := ord_lt x y hx hy
  have l2 := ord_gt x y hx hy
  generalize ltF x y = b3 at *
  generalize ltF y x = b4 at *
  generalize nanB x = b1 at *
  generalize nanB y = b2 at *
  have I1 := Lib.hid i1; have I2 := Lib.hid i2
  clear i1 i2
  have H : ∀ (c : Int), Calls Try.prog 21 #[.float .f64 x, .float .f64 y] w (fun e w' => e = .returned (.int .i64 (if b1 then (if b2 then 0 else -1) else if b2 then 1 else if b3 then -1 else if b4 then 1 else 0)) ∧ w = w') := by
    intro _
    cases b1 <;> cases b2
    · cases b3
      · cases b4
        all_goals
          go_enter Try.func21, Try.ntmps21
          go_wp2_with fail
          refine (I1.out _).mono ?_
          rintro e w' ⟨rfl, rfl⟩
          go_wp2_with fail
          refine (I2.out _).mono ?_
          rintro e w' ⟨rfl, rfl⟩
          go_wp2_with fail
          go_ret
          exact ⟨rfl, rfl⟩
      · go_enter Try.func21, Try.ntmps21
        go_wp2_with fail
        refine (I1.out _).mono ?_
        rintro e w' ⟨rfl, rfl⟩
        go_wp2_with fail
        refine (I2.out _).mono ?_
        rintro e w' ⟨rfl, rfl⟩
        go_wp2_with fail
        go_ret
        exact ⟨rfl, rfl⟩
    all_goals
      clear l1 l2
      go_enter Try.func21, Try.ntmps21
      go_wp2_with fail
      refine (I1.out _).mono ?_
      rintro e w' ⟨rfl, rfl⟩
      go_wp2_with fail
      refine (I2.out _).mono ?_
      rintro e w' ⟨rfl, rfl⟩
      go_wp2_with fail
      go_ret
      exact ⟨rfl, rfl⟩
  exact H 0
/-- cmp.Or of two. -/
theorem or_two (x y : Int) (w : World) :
    Calls Try.prog 20 #[.slice (some ⟨w.heap.size, 0, none⟩) 2 2] (w.alloc (.cells #[.int .i64 x, .int .i64 y] 3)) fun e w' => e = .returned (.int .i64 (if x = 0 then y else x)) ∧ w.alloc (.cells #[.int .i64 x, .int .i64 y] 3) = w' := by
  obtain ⟨g, hg⟩ : ∃ g, w.heap.size = g := ⟨_, rfl⟩
  obtain ⟨V, hV⟩ : ∃ V, w.alloc (.cells #[.int .i64 x, .int .i64 y] 3) = V := ⟨_, rfl⟩
  have c0 : V.cell? ⟨g, 0, none⟩ = some (.int .i64 x) := by rw [← hV, ← hg]; simp
  have c1 : V.cell? ⟨g, 1, none⟩ = some (.int .i64 y) := by rw [← hV, ← hg]; simp
  rw [hg, hV]
  clear hg hV
  by_cases hx : x = 0
  · subst hx
    rw [if_pos rfl]
    by_cases hy : y = 0
    · subst hy
      go_enter Try.func20, Try.ntmps20
      go_wp2
      go_loop [8] (fun i => ∃ k : Nat, k ≤ 2 ∧ i = .int .i64 k) (fun i => 2 - (intOf i).toNat)
      case atStart => exact ⟨0, by omega, rfl⟩
      case round =>
        obtain ⟨k, hk, rfl⟩ := hrel
        match k, hk with
        | 0, _ =>
          go_wp2
          go_round
          case rel => exact ⟨1, by omega, by go_num⟩
          case measure => simp [intOf]
        | 1, _ =>
          go_wp2
          go_round
          case rel => exact ⟨2, by omega, by go_num⟩
          case measure => simp [intOf]
        | 2, _ =>
          go_wp2
          go_ret
          exact ⟨rfl, rfl⟩
    · have hb : (y != 0) = true := by simpa using hy
      go_enter Try.func20, Try.ntmps20
      go_wp2
      go_loop [8] (fun i => ∃ k : Nat, k ≤ 1 ∧ i = .int .i64 k) (fun i => 2 - (intOf i).toNat)
      case atStart => exact ⟨0, by omega, rfl⟩
      case round =>
        obtain ⟨k, hk, rfl⟩ := hrel
        match k, hk with
        | 0, _ =>
          go_wp2
          go_round
          case rel => exact ⟨1, by omega, by go_num⟩
          case measure => simp [intOf]
        | 1, _ =>
          go_wp2
          go_ret
          exact ⟨rfl, rfl⟩
  · rw [if_neg hx]
    have hb : (x != 0) = true := by simpa using hx
    clear hx
    go_enter Try.func20, Try.ntmps20
    go_wp2
    go_loop [8] (fun i => i = .int .i64 0) (fun i => 2 - (intOf i).toNat)
    case atStart => rfl
    case round =>
      subst hrel
      go_wp2
      go_ret
      exact ⟨rfl, rfl⟩

theorem ext_bits (x : Nat) (w : World) : (callFunc 17 #[.float .f64 x]).run Try.prog w = .ok (.value (.int .u64 x)) w := by
  rw [run_callFunc_extern Try.func17 (by kernel_rfl) (by kernel_rfl) (by kernel_rfl) (e := Extern.MathFloatBits.float64bits) (by kernel_rfl)]; rfl
theorem ext_from (x : Nat) (w : World) : (callFunc 24 #[.int .u64 x]).run Try.prog w = .ok (.value (.float .f64 x)) w := by
  rw [run_callFunc_extern Try.func24 (by kernel_rfl) (by kernel_rfl) (by kernel_rfl) (e := Extern.MathFloatBits.float64frombits) (by kernel_rfl)]; rfl
theorem signbit_any (x : Nat) (w : World) (hx : x < 2^64) : Calls Try.prog 28 #[.float .f64 x] w fun e w' => e = .returned (.bool (negB x)) ∧ w = w' := by
  have e : decide (wrap64 (x : Int) < 0) = negB x := by
    rw [negB, Bool.eq_iff_iff]
    simp [wrap64]
    omega
  rw [← e]
  clear e
  have h := ext_bits x
  go_enter Try.func28, Try.ntmps28
  go_wp2
  go_ret
  exact ⟨rfl, rfl⟩
theorem sign_any (x : Nat) (w : World) (hx : x < 2^64) : Calls Try.prog 23 #[.float .f64 x] w fun e w' => e = .returned (.int .i64 (sgnF x)) ∧ w = w' := by
  rw [sgnF]
  have l1 := ord_ne x 0 hx (by omega)
  have s1 := fun w => signbit_any x w hx
  generalize eqF x 0 = b1 at *
  generalize negB x = b2 at *
  have S1 := Lib.hid s1
  clear s1
  cases b1
  · rw [Bool.not_false] at l1
    go_enter Try.func23, Try.ntmps23
    go_wp2
    go_ret
    exact ⟨rfl, rfl⟩
  · rw [Bool.not_true] at l1
    cases b2
    all_goals
      go_enter Try.func23, Try.ntmps23
      go_wp2_with fail
      refine (S1.out _).mono ?_
      rintro e w' ⟨rfl, rfl⟩
      go_wp2_with fail
      go_ret
      exact ⟨rfl, rfl⟩
theorem rcmp_any (x y : Nat) (w : World) (hx : x < 2^64) (hy : y < 2^64) : Calls Try.prog 12 #[.float .f64 x, .float .f64 y] w fun e w' => e = .returned (.int .i64 (cmpK x y)) ∧ Below w.heap.size w w' := by
  rw [← rcmp_eq x y hx hy, rcmp]
  have h1 := fun w => cmpf_any x y w hx hy
  have h2 := fun w => sign_any x w hx
  have h3 := fun w => sign_any y w hy
  have h4 := fun w => cmpi_any (sgnF x) (sgnF y) w
  have h5 := fun w => or_two (cmpF x y) (cmpI (sgnF x) (sgnF y)) w
  generalize (if cmpF x y = 0 then cmpI (sgnF x) (sgnF y) else cmpF x y) = z at *
  generalize cmpI (sgnF x) (sgnF y) = s at *
  generalize cmpF x y = p at *
  generalize sgnF x = q at *
  generalize sgnF y = r at *
  have H1 := Lib.hid h1; have H2 := Lib.hid h2; have H3 := Lib.hid h3; have H4 := Lib.hid h4; have H5 := Lib.hid h5
  clear h1 h2 h3 h4 h5
  go_enter Try.func12, Try.ntmps12
  go_wp2_with fail
  refine (H1.out _).mono ?_
  rintro e w' ⟨rfl, rfl⟩
  go_wp2_with fail
  refine (H2.out _).mono ?_
  rintro e w' ⟨rfl, rfl⟩
  go_wp2_with fail
  refine (H3.out _).mono ?_
  rintro e w' ⟨rfl, rfl⟩
  go_wp2_with fail
  refine (H4.out _).mono ?_
  rintro e w' ⟨rfl, rfl⟩
  go_wp2_with fail
  refine (H5.out _).mono ?_
  rintro e w' ⟨rfl, rfl⟩
  go_wp2_with fail
  go_ret
  exact ⟨rfl, (Below.refl _ _).alloc (Nat.le_refl _) _⟩
theorem u64_in (n : Int) (h : 0 ≤ n ∧ n ≤ 18446744073709551615) : IntKind.u64.wrap n = n := by
  simp only [IntKind.wrap, IntKind.signed, IntKind.bits, Bool.false_and, Bool.false_eq_true, if_false]
  omega
theorem bv64 (n : Nat) : (BitVec.ofInt 64 (n : Int)).toNat = n % 2^64 := by
  rw [BitVec.toNat_ofInt]; omega
theorem intBits_or (k : IntKind) (x y : Int) : Op.intBits .or k x y = pure (.int k (k.wrap ((BitVec.ofInt k.bits x ||| BitVec.ofInt k.bits y).toNat : Nat))) := rfl
theorem intBits_andNot (k : IntKind) (x y : Int) : Op.intBits .andNot k x y = pure (.int k (k.wrap ((BitVec.ofInt k.bits x &&& ~~~(BitVec.ofInt k.bits y)).toNat : Nat))) := rfl
theorem top_lit : (9223372036854775808 : Int) = ((2^63 : Nat) : Int) := by decide
theorem or_top (x : Nat) (h : x < 2^63) : Op.intBits .or .u64 (x : Int) 9223372036854775808 = pure (.int .u64 ((x : Int) + 9223372036854775808)) := by
  have e : ((BitVec.ofInt 64 (x : Int)) ||| (BitVec.ofInt 64 ((2^63 : Nat) : Int))).toNat = x + 2^63 := by
    rw [BitVec.toNat_or, bv64, bv64, Nat.mod_eq_of_lt (by omega), Nat.mod_eq_of_lt (by omega), Nat.or_comm]
    have := Nat.two_pow_add_eq_or_of_lt h 1
    rw [Nat.mul_one] at this
    rw [← this, Nat.add_comm]
  rw [intBits_or, top_lit, show IntKind.u64.bits = 64 from rfl, e, u64_in _ (by omega)]
  rw [Int.natCast_add]
theorem abs_bits (x : Nat) (h : x < 2^64) : Op.intBits .andNot .u64 (x : Int) 9223372036854775808 = pure (.int .u64 ((x % 2^63 : Nat) : Int)) := by
  have e : ((BitVec.ofInt 64 (x : Int)) &&& ~~~(BitVec.ofInt 64 ((2^63 : Nat) : Int))).toNat = x % 2^63 := by
    have h1 : ~~~(BitVec.ofInt 64 ((2^63 : Nat) : Int)) = BitVec.ofNat 64 (2^63 - 1) := by decide
    rw [h1, BitVec.toNat_and, bv64, BitVec.toNat_ofNat, Nat.mod_eq_of_lt h, Nat.mod_eq_of_lt (a := 2^63 - 1) (by omega), Nat.and_two_pow_sub_one_eq_mod]
  rw [intBits_andNot, top_lit, show IntKind.u64.bits = 64 from rfl, e, u64_in _ (by omega)]
theorem key_any (x : Nat) (w : World) (hx : x < 2^64) : Calls Try.prog 19 #[.float .f64 x] w fun e w' => e = .returned (.int .u64 (keyF x)) ∧ w = w' := by
  rw [keyF]
  have l1 := ord_ne x x hx hx
  rw [eqF_self, Bool.not_not] at l1
  have h := ext_bits x
  have hsm : nanB x = false → x < 2^63 → (x : Int) ≤ 9218868437227405312 := fun h1 h2 => by have := small_le h1 h2; omega
  generalize nanB x = b1 at *
  cases b1
  · by_cases hn : 2^63 ≤ x
    · rw [if_neg (by simp), if_pos hn]
      have g1 : (9223372036854775808 : Int) ≤ x := by omega
      have g2 : (x : Int) ≤ 18446744073709551615 := by omega
      have H := Lib.hid hn
      clear hn hx hsm
      go_enter Try.func19, Try.ntmps19
      go_wp2
      go_ret
      have := H.out
      exact ⟨ret_int (by omega), rfl⟩
    · rw [if_neg (by simp), if_neg hn]
      have g1 : ¬ (9223372036854775808 : Int) ≤ x := by omega
      have hor := or_top x (by omega)
      have HSM := Lib.hid (hsm rfl (by omega))
      clear hn hsm
      go_enter Try.func19, Try.ntmps19
      go_wp2
      go_ret
      clear hor h l1 g1
      have h1 := HSM.out
      have h3 : 0 ≤ 1 + ((x : Int) + 9223372036854775808) ∧ 1 + ((x : Int) + 9223372036854775808) ≤ 18446744073709551615 := by omega
      have h2 := u64_in _ h3
      exact ⟨ret_int h2, rfl⟩
  · rw [if_pos rfl]
    clear h hsm
    go_enter Try.func19, Try.ntmps19
    go_wp2
    go_ret
    exact ⟨rfl, rfl⟩
theorem refcmp_any (x y : Nat) (w : World) (hx : x < 2^64) (hy : y < 2^64) : Calls Try.prog 10 #[.float .f64 x, .float .f64 y] w fun e w' => e = .returned (.int .i64 (cmpK x y)) ∧ w = w' := by
  rw [cmpK, cmpN]
  have h1 := fun w => key_any x w hx
  have h2 := fun w => key_any y w hy
  generalize keyF x = p at *
  generalize keyF y = q at *
  have H1 := Lib.hid h1; have H2 := Lib.hid h2
  clear h1 h2
  by_cases c1 : p < q
  · rw [if_pos c1]
    have g1 : (p : Int) < q := by omega
    go_enter Try.func10, Try.ntmps10
    go_wp2_with fail
    refine (H1.out _).mono ?_
    rintro e w' ⟨rfl, rfl⟩
    go_wp2_with fail
    refine (H2.out _).mono ?_
    rintro e w' ⟨rfl, rfl⟩
    go_wp2_with fail
    go_ret
    exact ⟨rfl, rfl⟩
  · rw [if_neg c1]
    have g1 : ¬ (p : Int) < q := by omega
    by_cases c2 : q < p
    · rw [if_pos c2]
      have g2 : (q : Int) < p := by omega
      go_enter Try.func10, Try.ntmps10
      go_wp2_with fail
      refine (H1.out _).mono ?_
      rintro e w' ⟨rfl, rfl⟩
      go_wp2_with fail
      refine (H2.out _).mono ?_
      rintro e w' ⟨rfl, rfl⟩
      go_wp2_with fail
      refine (H1.out _).mono ?_
      rintro e w' ⟨rfl, rfl⟩
      go_wp2_with fail
      refine (H2.out _).mono ?_
      rintro e w' ⟨rfl, rfl⟩
      go_wp2_with fail
      go_ret
      exact ⟨rfl, rfl⟩
    · rw [if_neg c2]
      have g2 : ¬ (q : Int) < p := by omega
      go_enter Try.func10, Try.ntmps10
      go_wp2_with fail
      refine (H1.out _).mono ?_
      rintro e w' ⟨rfl, rfl⟩
      go_wp2_with fail
      refine (H2.out _).mono ?_
      rintro e w' ⟨rfl, rfl⟩
      go_wp2_with fail
      refine (H1.out _).mono ?_
      rintro e w' ⟨rfl, rfl⟩
      go_wp2_with fail
      refine (H2.out _).mono ?_
      rintro e w' ⟨rfl, rfl⟩
      go_wp2_with fail
      go_ret
      exact ⟨rfl, rfl⟩
end Go.Proofs.Ytccigmpbcjlogaa

/- The walks of RateOrders and RateThree. -/
namespace Go.Proofs.Ytccigmpbcjlogaa
open Go.RowKit
set_option linter.unusedVariables false

theorem mnan (w : World) : Calls Try.prog 18 #[] w fun e w' => e = .returned (.float .f64 9221120237041090561) ∧ w = w' := by
  have h : ∀ w, (callFunc 24 #[.int .u64 9221120237041090561]).run Try.prog w = .ok (.value (.float .f64 9221120237041090561)) w := fun w => by simpa using ext_from 9221120237041090561 w
  go_enter Try.func18, Try.ntmps18
  go_wp2
  go_ret
  exact ⟨rfl, rfl⟩
theorem minf_pos (w : World) : Calls Try.prog 13 #[.int .i64 1] w fun e w' => e = .returned (.float .f64 9218868437227405312) ∧ w = w' := by
  have h : ∀ w, (callFunc 24 #[.int .u64 9218868437227405312]).run Try.prog w = .ok (.value (.float .f64 9218868437227405312)) w := fun w => by simpa using ext_from 9218868437227405312 w
  go_enter Try.func13, Try.ntmps13
  go_wp2
  go_ret
  exact ⟨rfl, rfl⟩
theorem minf_neg (w : World) : Calls Try.prog 13 #[.int .i64 (-1)] w fun e w' => e = .returned (.float .f64 18442240474082181120) ∧ w = w' := by
  have h : ∀ w, (callFunc 24 #[.int .u64 18442240474082181120]).run Try.prog w = .ok (.value (.float .f64 18442240474082181120)) w := fun w => by simpa using ext_from 18442240474082181120 w
  go_enter Try.func13, Try.ntmps13
  go_wp2
  go_ret
  exact ⟨rfl, rfl⟩

/-- The bits of 'float64(fee) / float64(size)', where it is valid. -/
def divI (fee size : Int) : Option Nat := floatBits .quo .f64 (floatOfInt .f64 fee) (floatOfInt .f64 size)

theorem of_nan (fee size : Int) (w : World) (h : size < 0 ∨ size = 0 ∧ fee = 0) : Calls Try.prog 11 #[.int .u64 fee, .int .i64 size] w fun e w' => e = .returned (.float .f64 9221120237041090561) ∧ w = w' := by
  rcases h with h | ⟨rfl, rfl⟩
  · go_enter Try.func11, Try.ntmps11
    go_wp2_with fail
    refine (mnan _).mono ?_
    rintro e w' ⟨rfl, rfl⟩
    go_wp2_with fail
    go_ret
    exact ⟨rfl, rfl⟩
  · go_enter Try.func11, Try.ntmps11
    go_wp2_with fail
    refine (mnan _).mono ?_
    rintro e w' ⟨rfl, rfl⟩
    go_wp2_with fail
    go_ret
    exact ⟨rfl, rfl⟩
theorem of_inf (fee : Int) (w : World) (h : 0 < fee) : Calls Try.prog 11 #[.int .u64 fee, .int .i64 0] w fun e w' => e = .returned (.float .f64 9218868437227405312) ∧ w = w' := by
  have hb : (fee == 0) = false := beq_eq_false_iff_ne.2 (by omega)
  go_enter Try.func11, Try.ntmps11
  go_wp2_with fail
  refine (minf_pos _).mono ?_
  rintro e w' ⟨rfl, rfl⟩
  go_wp2_with fail
  go_ret
  exact ⟨rfl, rfl⟩
theorem of_num (fee size : Int) (r : Nat) (w : World) (h : 0 < size) (hr : divI fee size = some r) : Calls Try.prog 11 #[.int .u64 fee, .int .i64 size] w fun e w' => e = .returned (.float .f64 r) ∧ w = w' := by
  have hb : (size == 0) = false := beq_eq_false_iff_ne.2 (by omega)
  have hq := fun w t => run_float_arith (P := Try.prog) w .quo t .f64 _ _ r hr
  clear hr
  go_enter Try.func11, Try.ntmps11
  go_wp2_with fail
  go_ret
  exact ⟨rfl, rfl⟩

theorem awake01 (w : World) : Calls Try.prog 4 #[] w fun e w' => e = .returned (.bool true) ∧ Below w.heap.size w w' := by
  have n1 : (FloatKind.f64.format.order 9221120237041090561 9221120237041090561 != some .eq) = true := by decide +kernel
  have n2 : (FloatKind.f64.format.order 4609434218613702656 4609434218613702656 == some .eq) = true := by decide +kernel
  have k1 : cmpK 9221120237041090561 18442240474082181120 = -1 := by decide +kernel
  have hc := fun w => rcmp_any 9221120237041090561 18442240474082181120 w (by decide) (by decide)
  rw [k1] at hc
  have HC := Lib.hid hc
  clear hc k1
  go_enter Try.func4, Try.ntmps4
  go_wp2_with fail
  refine (of_nan 0 0 _ (.inr ⟨rfl, rfl⟩)).mono ?_
  rintro e w' ⟨rfl, rfl⟩
  go_wp2_with fail
  refine (minf_neg _).mono ?_
  rintro e w' ⟨rfl, rfl⟩
  go_wp2_with fail
  refine (HC.out _).mono ?_
  rintro e w1 ⟨rfl, hb1⟩
  have HB1 := Lib.hid hb1; clear hb1
  go_wp2_with fail
  refine (of_num 6 4 4609434218613702656 _ (by omega) (by decide +kernel)).mono ?_
  rintro e w' ⟨rfl, rfl⟩
  go_wp2_with fail
  go_ret
  exact ⟨rfl, HB1.out⟩

theorem lt64 {x : Nat} (h : (Lit.float .f64 x).wf = true) : x < 2^64 := by simpa [Lit.wf] using h

end Go.Proofs.Ytccigmpbcjlogaa

/- slices.swapRangeCmpFunc at floats: two ranges change places. -/
namespace Go.Proofs.Ytccigmpbcjlogaa
open Go.RowKit
set_option linter.unusedVariables false
theorem gb_trans {a b c : World} {r : Option Nat} (h : a.grownBy b r) (k : b.grownBy c r) : a.grownBy c r :=
  ⟨k.os.trans h.os, k.tape.trans h.tape, k.output.trans h.output, Nat.le_trans h.size k.size, fun j hj hne => (k.block j (Nat.lt_of_lt_of_le hj h.size) hne).trans (h.block j hj hne)⟩
end Go.Proofs.Ytccigmpbcjlogaa
section
open Go Go.RowKit Go.Proofs.Ytccigmpbcjlogaa
theorem Go.World.grownBy.grow' {a b c : World} {r : Option Nat} (h : a.grownBy b r) (k : Grow b c) : a.grownBy c r :=
  gb_trans h ⟨k.os, k.tape, k.output, k.size, fun j hj _ => k.block j hj⟩
end
namespace Go.Proofs.Ytccigmpbcjlogaa
open Go.RowKit
set_option linter.unusedVariables false
abbrev Fv (x : Nat) : Value := .float .f64 x
/-- Two places of a list change what they hold. -/
def xch (l : List Nat) (i j : Nat) : List Nat := (l.set i (l.getD j 0)).set j (l.getD i 0)
theorem xch_len (l : List Nat) (i j : Nat) : (xch l i j).length = l.length := by simp [xch]
theorem xch_mid (P C E : List Nat) (u v : Nat) : xch (P ++ u :: (C ++ v :: E)) P.length (P.length + 1 + C.length) = P ++ v :: (C ++ u :: E) := by
  have h1 : (P ++ u :: (C ++ v :: E)).getD P.length 0 = u := by simp [List.getD_eq_getElem?_getD]
  have h2 : (P ++ u :: (C ++ v :: E)).getD (P.length + 1 + C.length) 0 = v := by
    rw [List.getD_eq_getElem?_getD, List.getElem?_append_right (by omega), show P.length + 1 + C.length - P.length = C.length + 1 by omega, List.getElem?_cons_succ, List.getElem?_append_right (by omega)]
    simp
  unfold xch
  rw [h1, h2, List.set_append_right _ _ (by omega), show P.length - P.length = 0 by omega, List.set_cons_zero, List.set_append_right _ _ (by omega), show P.length + 1 + C.length - P.length = C.length + 1 by omega, List.set_cons_succ, List.set_append_right _ _ (by omega)]
  simp
theorem swpd_step {A U M V B : List Nat} {n k : Nat} (hu : U.length = n) (hv : V.length = n) (hk : k < n) : xch (swpd A U M V B k) (A.length + k) (A.length + n + M.length + k) = swpd A U M V B (k + 1) := by
  obtain ⟨u, hu1⟩ : ∃ u, U[k]? = some u := ⟨_, List.getElem?_eq_getElem (by omega)⟩
  obtain ⟨v, hv1⟩ : ∃ v, V[k]? = some v := ⟨_, List.getElem?_eq_getElem (by omega)⟩
  have du : U.drop k = u :: U.drop (k + 1) := by
    obtain ⟨h, e⟩ := List.getElem?_eq_some_iff.1 hu1
    rw [List.drop_eq_getElem_cons h, e]
  have dv : V.drop k = v :: V.drop (k + 1) := by
    obtain ⟨h, e⟩ := List.getElem?_eq_some_iff.1 hv1
    rw [List.drop_eq_getElem_cons h, e]
  have tu : U.take (k + 1) = U.take k ++ [u] := by rw [List.take_add_one, hu1]; rfl
  have tv : V.take (k + 1) = V.take k ++ [v] := by rw [List.take_add_one, hv1]; rfl
  have e1 : swpd A U M V B k = (A ++ V.take k) ++ u :: ((U.drop (k + 1) ++ M ++ U.take k) ++ v :: (V.drop (k + 1) ++ B)) := by
    unfold swpd; rw [du, dv]; simp
  have e2 : swpd A U M V B (k + 1) = (A ++ V.take k) ++ v :: ((U.drop (k + 1) ++ M ++ U.take k) ++ u :: (V.drop (k + 1) ++ B)) := by
    unfold swpd; rw [tu, tv]; simp
  have l1 : (A ++ V.take k).length = A.length + k := by rw [List.length_append, List.length_take]; omega
  have l2 : (U.drop (k + 1) ++ M ++ U.take k).length = n - (k + 1) + M.length + k := by
    rw [List.length_append, List.length_append, List.length_take, List.length_drop]; omega
  have e3 := xch_mid (A ++ V.take k) (U.drop (k + 1) ++ M ++ U.take k) (V.drop (k + 1) ++ B) u v
  rw [l1, l2] at e3
  rw [e1, e2, ← e3]
  congr 1; omega
theorem swpd_len {A U M V B : List Nat} {n k : Nat} (hu : U.length = n) (hv : V.length = n) (hk : k ≤ n) : (swpd A U M V B k).length = A.length + n + M.length + n + B.length := by
  unfold swpd; simp only [List.length_append, List.length_take, List.length_drop]; omega
/-- The floats of a slice's own block (behind them: what the block has room for). -/
def DAt (w : World) (g n : Nat) (xs : List Nat) : Prop := (∃ T, Blk w g 26 (xs.map Fv ++ T)) ∧ xs.length = n
theorem DAt.grow {w w' : World} {g n : Nat} {xs : List Nat} (h : DAt w g n xs) (k : Grow w w') : DAt w' g n xs := by
  obtain ⟨⟨T, hT⟩, hl⟩ := h
  exact ⟨⟨T, hT.grow k⟩, hl⟩
theorem DAt.tail {w : World} {g n : Nat} {xs : List Nat} (h : DAt w g n xs) : ∃ T, Blk w g 26 (xs.map Fv ++ T) := h.1
theorem DAt.cell {w : World} {g n : Nat} {xs : List Nat} (h : DAt w g n xs) {i : Nat} (hi : i < n) : w.cell? ⟨g, i, none⟩ = some (Fv (xs.getD i 0)) := by
  obtain ⟨⟨T, hT⟩, hl⟩ := h
  refine hT.at_ ?_
  rw [List.getElem?_append_left (by rw [List.length_map]; omega), List.getElem?_map, List.getD_eq_getElem?_getD, List.getElem?_eq_getElem (by omega)]
  rfl
theorem DAt.len {w : World} {g n : Nat} {xs : List Nat} (h : DAt w g n xs) : xs.length = n := h.2
theorem DAt.set2 {w : World} {g n : Nat} {xs : List Nat} {T : List Value} {i j : Nat} (hb : Blk w g 26 (((xs.map Fv ++ T).set i (Fv (xs.getD j 0))).set j (Fv (xs.getD i 0)))) (hl : xs.length = n) (hi : i < n) (hj : j < n) : DAt w g n (xch xs i j) := by
  have e : ((xs.map Fv ++ T).set i (Fv (xs.getD j 0))).set j (Fv (xs.getD i 0)) = (xch xs i j).map Fv ++ T := by
    unfold xch
    rw [List.set_append_left _ _ (by rw [List.length_map]; omega), List.set_append_left _ _ (by rw [List.length_set, List.length_map]; omega), List.map_set, List.map_set]
  rw [e] at hb
  exact ⟨⟨T, hb⟩, by rw [xch_len]; exact hl⟩
set_option maxRecDepth 100000 in
set_option maxHeartbeats 4000000 in
theorem swapR_any {cmp : Value} {g n c : Nat} {A U M V B : List Nat} {q : Nat} (hu : U.length = q) (hv : V.length = q) (w : World) (hd : DAt w g n (A ++ U ++ M ++ V ++ B)) (hn : n ≤ 1000000) :
    Calls Try.prog 32 #[.slice (some ⟨g, 0, none⟩) n c, .int .i64 (A.length : Nat), .int .i64 (A.length + q + M.length : Nat), .int .i64 (q : Nat), cmp] w fun e w' => e = .returned (.tuple #[]) ∧ DAt w' g n (A ++ V ++ M ++ U ++ B) ∧ w.grownBy w' (some g) := by
  have HNN := Lib.hid (show A.length + q + M.length + q + B.length = n by have := hd.len; rw [← this]; simp [hu, hv]; omega)
  have HN := Lib.hid hn
  have HST := Lib.hid (fun k (hk : k < q) => swpd_step (A := A) (M := M) (B := B) hu hv hk)
  have HLN := Lib.hid (fun k (hk : k ≤ q) => swpd_len (A := A) (M := M) (B := B) hu hv hk)
  have HAL := Lib.hid (show swpd A U M V B q = A ++ V ++ M ++ U ++ B from swpd_all hu hv)
  have HX := Lib.hid (show DAt w g n (swpd A U M V B 0) by rw [swpd_zero]; exact hd)
  obtain ⟨f, hf⟩ : ∃ f, f = fun k => swpd A U M V B k := ⟨_, rfl⟩
  have hf0 : ∀ k, swpd A U M V B k = f k := fun k => by rw [hf]
  simp only [hf0] at HST HLN HAL HX
  obtain ⟨a, ha⟩ : ∃ a, a = A.length := ⟨_, rfl⟩
  obtain ⟨b, hb⟩ : ∃ b, b = A.length + q + M.length := ⟨_, rfl⟩
  have HAB := Lib.hid (show a + q ≤ b ∧ b + q ≤ n by have := HNN.out; omega)
  have HST2 := Lib.hid (show ∀ k, k < q → xch (f k) (a + k) (b + k) = f (k + 1) by rw [ha, hb]; exact HST.out)
  rw [← hb, ← ha, ← HAL.out]
  clear hu hv hd hn hf hf0 HST HAL HNN ha hb
  obtain ⟨w_, hw⟩ : ∃ x, x = w := ⟨_, rfl⟩
  have HB := Lib.hid (show w.grownBy w_ (some g) by rw [hw]; exact World.grownBy.refl _ _)
  rw [← hw] at HX
  suffices H : Calls Try.prog 32 #[.slice (some ⟨g, 0, none⟩) n c, .int .i64 (a : Nat), .int .i64 (b : Nat), .int .i64 (q : Nat), cmp] w_ fun e w' => e = .returned (.tuple #[]) ∧ DAt w' g n (f q) ∧ w.grownBy w' (some g) by rw [hw] at H; exact H
  clear hw
  go_enter Try.func32, Try.ntmps32
  go_wp2_with fail
  go_loopw [10] (fun i wr => ∃ k : Nat, k ≤ q ∧ i = .int .i64 k ∧ Hid (DAt wr g n (f k)) ∧ Hid (w.grownBy wr (some g))) (fun i _ => q - (intOf i).toNat)
  case atStart => exact ⟨0, by omega, rfl, HX, HB⟩
  case round =>
    obtain ⟨k, hk, rfl, hx, hb⟩ := hrel
    clear HX HB
    have HX := hx; have HB := hb
    clear hx hb
    rename World => w_
    by_cases hlt : k < q
    · obtain ⟨ai, hai⟩ : ∃ z, z = a + k := ⟨_, rfl⟩
      obtain ⟨bi, hbi⟩ : ∃ z, z = b + k := ⟨_, rfl⟩
      have HQ := Lib.hid (show a + q ≤ b ∧ b + q ≤ n from HAB.out)
      have v1 : IntKind.i64.wrap ((a : Int) + (k : Int)) = (ai : Int) := by rw [hai, IntWalk.i64_in _ (by have := HQ.out; have := HN.out; omega)]; omega
      have v2 : IntKind.i64.wrap ((b : Int) + (k : Int)) = (bi : Int) := by rw [hbi, IntWalk.i64_in _ (by have := HQ.out; have := HN.out; omega)]; omega
      have v3 : IntKind.i64.wrap ((k : Int) + 1) = (k : Int) + 1 := IntWalk.i64_in _ (by have := HQ.out; have := HN.out; omega)
      have hA : ai < n := by have := HQ.out; omega
      have hB : bi < n := by have := HQ.out; omega
      have HE := Lib.hid (HST2.out k hlt)
      rw [← hai, ← hbi] at HE
      have HL := Lib.hid HX.out.len
      clear hai hbi
      obtain ⟨xs, hxs⟩ : ∃ z, z = f k := ⟨_, rfl⟩
      rw [← hxs] at HX HE HL
      clear hxs
      obtain ⟨x, hx⟩ : ∃ z, z = xs.getD ai 0 := ⟨_, rfl⟩
      obtain ⟨y, hy⟩ : ∃ z, z = xs.getD bi 0 := ⟨_, rfl⟩
      have HXE := Lib.hid hx; have HYE := Lib.hid hy
      try go_wp2_with fail
      repeat' (first | (with_reducible refine wp_plan (id := 3) Grow [0,0,0,0,0,0,0,0,0,0,0,0,0,2,0,0,0,0,0,2,0,3,0,3] (.get 0 (.get 1 (.get 2 (.get 3 (.get 4 (.get 5 (.get 6 (.get 7 (.get 8 (.get 9 (.get 10 (.get 11 (.get 12 (.get 13 (.get 14 (.get 15 (.get 16 (.get 17 (.get 18 (.get 19 (.get 20 (.act 21 (.get 22 (.act 23 .done)))))))))))))))))))))))) (by kernel_rfl) (by kernel_rfl) Grow.refl Grow.trans ?_) | go_values | go_skip | go_guarded | go_step | go_upon | go_back)
      intro w_ hd_
      have hb_ := hd_.grow
      have HB_ := Lib.hid (HB.out.grow' hb_)
      clear HB
      have HB := HB_
      clear HB_
      have HX_ := Lib.hid (HX.out.grow hb_)
      clear HX
      have HX := HX_
      clear HX_
      clear hb_ hd_
      have ca : w_.cell? ⟨g, ai, none⟩ = some (.float .f64 x) := by rw [hx]; exact HX.out.cell hA
      have cb : w_.cell? ⟨g, bi, none⟩ = some (.float .f64 y) := by rw [hy]; exact HX.out.cell hB
      clear hx hy
      repeat (first | (refine pl_calm rfl rfl (by first | exact wanted_none rfl | (go_simp; done) | rfl) (fun w_ => by first | (go_simp; rfl) | (go_simp; done) | rfl) (fun K hK => ?_); go_simp; refine hK _ _ ?_; clear hK K) | (refine pl_skip rfl (by first | (go_simp; done) | rfl) (fun K hK => ?_); go_simp; refine hK _ _ ?_; clear hK K) | (refine pl_skipa rfl (by first | (go_simp; done) | rfl) (fun K hK => ?_); go_simp; refine hK _ _ ?_; clear hK K) | (refine pl_load rfl rfl (by first | exact wanted_none rfl | (go_simp; done) | rfl) rfl (by first | rfl | (go_simp; rfl)) (by kernel_rfl) (by first | exact ca | exact cb) (fun K hK => ?_); go_simp; refine hK _ _ ?_; clear hK K) | (refine pl_loadnow rfl rfl (by first | exact wanted_none rfl | (go_simp; done) | rfl) rfl (by first | rfl | (go_simp; rfl)) (by kernel_rfl) (by first | exact ca | exact cb) (fun K hK => ?_); go_simp; refine hK _ _ ?_; clear hK K))
      refine pl_act rfl (by exact wanted_none rfl) (fun K hK => ?_)
      show wpList _ _ _ [⟨none, .store _ _ _, _, _, _, _⟩] _ _
      obtain ⟨T, hT⟩ := HX.out.tail
      have HT := Lib.hid hT
      clear hT
      have hl1 : ai < (xs.map Fv ++ T).length := by rw [List.length_append, List.length_map, HL.out]; exact Nat.lt_add_right _ hA
      go_wp2_with (first | (refine wpl_store1 (o := ⟨none, .store _ _ _, _, _, _, _⟩) rfl rfl HT.out rfl rfl (by kernel_rfl) rfl rfl hl1 ?_))
      intro w2_ hb2_ hg2_ hsz2_
      clear hl1
      go_wp2_with fail
      refine hK _ _ (fun h => absurd h (by decide)) ?_
      clear hK K
      have HB2 := Lib.hid (gb_trans HB.out hg2_)
      have HX2 := Lib.hid hb2_
      clear HX HB hb2_ hg2_ hsz2_ ca cb
      repeat (first | (refine pl_calm rfl rfl (by first | exact wanted_none rfl | (go_simp; done) | rfl) (fun w_ => by first | (go_simp; rfl) | (go_simp; done) | rfl) (fun K hK => ?_); go_simp; refine hK _ _ ?_; clear hK K) | (refine pl_skip rfl (by first | (go_simp; done) | rfl) (fun K hK => ?_); go_simp; refine hK _ _ ?_; clear hK K) | (refine pl_skipa rfl (by first | (go_simp; done) | rfl) (fun K hK => ?_); go_simp; refine hK _ _ ?_; clear hK K))
      refine pl_act rfl (by exact wanted_none rfl) (fun K hK => ?_)
      show wpList _ _ _ [⟨none, .store _ _ _, _, _, _, _⟩] _ _
      have hl1 : bi < ((xs.map Fv ++ T).set ai (Fv y)).length := by rw [List.length_set, List.length_append, List.length_map, HL.out]; exact Nat.lt_add_right _ hB
      go_wp2_with (first | (refine wpl_store1 (o := ⟨none, .store _ _ _, _, _, _, _⟩) rfl rfl HX2.out rfl rfl (by kernel_rfl) rfl rfl hl1 ?_))
      intro w3_ hb2_ hg2_ hsz2_
      clear hl1
      go_wp2_with fail
      refine hK _ _ (fun h => absurd h (by decide)) ?_
      clear hK K
      have HB3 := Lib.hid (gb_trans HB2.out hg2_)
      have HX3 := Lib.hid (show DAt w3_ g n (f (k + 1)) by rw [← HE.out]; rw [HXE.out, HYE.out] at hb2_; exact DAt.set2 hb2_ HL.out hA hB)
      clear HX2 HB2 hb2_ hg2_ hsz2_
      refine pl_done ?_
      go_wp2_with fail
      go_roundw
      all_goals clear v1 v2 v3
      case rel => exact ⟨k + 1, by omega, by go_num, HX3, HB3⟩
      case measure => simp [intOf]; omega
    · obtain rfl : k = q := by omega
      go_wp2_with fail
      go_end0
      exact ⟨rfl, HX.out, HB.out⟩
end Go.Proofs.Ytccigmpbcjlogaa

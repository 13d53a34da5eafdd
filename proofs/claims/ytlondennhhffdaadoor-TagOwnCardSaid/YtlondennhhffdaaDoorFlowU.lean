/- Under a mark, over a list of lists that is known by its bytes; facts ready for the laws. -/
import Derived.Test.YtlondennhhffdaaDoorFlowS
import Derived.Test.YtlondennhhffdaaDoorUnder
namespace Go.Proofs.YtlondennhhffdaaDoor
open Go.RowKit Go.Shelf
theorem punder_any {m : UInt8} {A : Option Addr} {n c : Nat} {ls : List (List UInt8)} {xs : List Value} (hx : Dig xs (sha (underB m ls))) {w : World} (hp : ∃ ps, Parts w w.heap.size A n ps ∧ ps.map Prod.snd = ls) (hn : n ≤ 400000) (hl : ∀ l ∈ ls, l.length ≤ 1000000) (ht : Tabs w) :
    Calls Tryd.prog 26 #[.int .u8 (b8 m), .slice A n c] w fun e w' => e = .returned (.agg xs.toArray) ∧ Below w.heap.size w w' := by
  obtain ⟨ps, h1, rfl⟩ := hp
  exact under_any m A n c ps hx w h1 hn (fun p hp => hl _ (List.mem_map_of_mem hp)) ht
theorem dig_of (l : List UInt8) : ∃ v, Dig v (sha l) := ⟨_, Dig.sha l⟩
theorem Dig.eql_b {xs ys : List Value} {a b : List UInt8} {d : Bool} (h : Dig xs a) (k : Dig ys b) (hd : (a == b) = d) (w : World) : (binOp .eql 26 (.agg xs.toArray) (.agg ys.toArray)).run Tryd.prog w = .ok (.bool d) w := by rw [h.eql k, hd]
theorem Dig.neq_b {xs ys : List Value} {a b : List UInt8} {d : Bool} (h : Dig xs a) (k : Dig ys b) (hd : (a == b) = d) (w : World) : (binOp .neq 26 (.agg xs.toArray) (.agg ys.toArray)).run Tryd.prog w = .ok (.bool !d) w := by rw [h.neq k, bne, hd]
theorem beq_swap {a b : List UInt8} {d : Bool} (h : (a == b) = d) : (b == a) = d := by rw [← h]; exact BEq.comm
/-- 'append(out, src...)', under a guard that says yes. -/
theorem wpl_appsw {P : Program} {w : World} {ops : Array Oper} {rest : List Oper} {o : Oper} {a : Act} {Q : Exit → Act → World → Prop} (hw : Region.wanted o (yielded ops a.tmps) = true) {s x : Operand} {t : TypeId}
    (ho : o.op = .call { callee := .builtin .append, args := #[s, x], argTypes := #[t, t] })
    {base : Nat} {e : TypeId} {sz bytes : Nat} (HE : ElemT P t e sz bytes)
    {A : Option Addr} {n c : Nat} {xs : List Value} (hown : w.ownsRow base e sz (.slice A n c) n xs) (hs : a.eval s = .slice A n c)
    {B : Nat} {A2 : Option Addr} {m c2 : Nat} {news : List Value} (hr : Sl w B sz A2 m news) (hx : a.eval x = .slice A2 m c2) (h1 : ∀ u ∈ news, u.oneCell' = true)
    (h63 : (n + m) * bytes ≤ 140737488355328) (hmx : n + m ≤ 140737488355328) (hbase : base ≤ w.heap.size)
    (h : ∀ A' c' w', w'.ownsRow base e sz (.slice A' (n + m) c') (n + m) (xs ++ news) → w.grownBy w' (A.map Addr.block) → (A'.map Addr.block = A.map Addr.block ∨ A'.map Addr.block = some w.heap.size) → wpList P ops Q rest (a.put o.dst (.slice A' (n + m) c')) w') : wpList P ops Q (o :: rest) a w := by
  obtain ⟨i, z, hi, hz, hsz, hby, hzs, h0⟩ := HE.hi
  exact wpl_wanted hw fun _ hK => wp_app w s x t ho base e i z sz bytes HE.ht hi hz hsz hby hzs h0 A n c xs hs hown B A2 m c2 news hx hr h1 (by simp only [maxLen]; omega) h63 hbase fun A' c' w' h2 h3 h4 => hK _ _ (h A' c' w' h2 h3 h4)
end Go.Proofs.YtlondennhhffdaaDoor

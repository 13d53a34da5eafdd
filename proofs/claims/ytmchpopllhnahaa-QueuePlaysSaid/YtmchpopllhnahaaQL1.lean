/- Arguments opened: lists of acts; what is too great. -/
import Derived.Test.YtmchpopllhnahaaQT
import Derived.Test.YtmchpopllhnahaaQL0
namespace Go.Proofs.Ytmchpopllhnahaa
open Go.RowKit Go.ChangeShapes Go.WideShapes
set_option linter.unusedVariables false
set_option maxRecDepth 100000
theorem got {α : Type} {o : Option α} {xs : List α} {i : Nat} (h : o = xs[i]?) (hi : i < xs.length) : ∃ y, o = some y := ⟨_, h.trans (List.getElem?_eq_getElem hi)⟩
theorem cut_eq {xs : List Value} {o n : Nat} {l rest : List Value} (h : (xs.drop o).take n = l) (hr : xs.drop (o + n) = rest) : xs.drop o = l ++ rest := by
  rw [← List.take_append_drop n (xs.drop o), h, List.drop_drop, hr]
theorem cells_intq : Try.prog.cellsOf 3 = 1 := by kernel_rfl
theorem cells_f64q : Try.prog.cellsOf 26 = 1 := by kernel_rfl
theorem cells_su8q : Try.prog.cellsOf 27 = 1 := by kernel_rfl
theorem cells_u8q : Try.prog.cellsOf 5 = 1 := by kernel_rfl
theorem cells_waitq : Try.prog.cellsOf 29 = 4 := by kernel_rfl
theorem cells_actq : Try.prog.cellsOf 50 = 5 := by kernel_rfl
theorem row_act : RowT Try.prog 50 5 := ⟨_, Try.underlying50, by kernel_rfl, by kernel_rfl⟩
instance : Inhabited Wt := ⟨noWt⟩
abbrev ActT := Value × Int × Wt
def actV (a : ActT) : List Value := .int .i64 a.2.1 :: wtV a.1 a.2.2
theorem zero_act : (Try.prog.info? 50).map (·.zero) = some (some (.agg (actV (nilS, 0, noWt)).toArray)) := by kernel_rfl
theorem len_act : (actV (nilS, 0, noWt)).length = 5 := rfl
def AOK (w : World) (a : ActT) : Prop := (∃ A n c, a.1 = .slice A n c ∧ n = a.2.2.bs.length ∧ Sl w w.heap.size 1 A n (a.2.2.bs.map B)) ∧ a.2.2.rate < 2 ^ 64
theorem AOK.bv {w : World} {a : ActT} (h : AOK w a) : BV w [] a.1 a.2.2.bs := by
  obtain ⟨⟨A, n, c, h1, h2, h3⟩, _⟩ := h
  exact ⟨A, n, c, h1, h2, h3, fun _ b _ hb => by cases hb⟩
def ActsAt (w : World) (A : Option Addr) (n : Nat) (l : List ActT) : Prop := l.length = n ∧ Sl w w.heap.size 5 A n (l.flatMap actV) ∧ ∀ a ∈ l, AOK w a
theorem actV_len (a : ActT) : (actV a).length = 5 := rfl
theorem ActsAt.at_ {w : World} {A : Option Addr} {n : Nat} {l : List ActT} (h : ActsAt w A n l) {k : Nat} (hk : k < n) : ∃ b off a, A = some ⟨b, off, none⟩ ∧ l[k]? = some a ∧ (∀ j u, (actV a)[j]? = some u → w.cell? ⟨b, off + k * 5 + j, none⟩ = some u) ∧ AOK w a := by
  obtain ⟨b, off, e, hb, hc⟩ := h.2.1.2 (by omega)
  have hl : k < l.length := by have := h.1; omega
  refine ⟨b, off, l[k], e, List.getElem?_eq_getElem hl, fun j u hu => ?_, h.2.2 _ (List.getElem_mem hl)⟩
  rw [Nat.add_assoc]
  refine hc _ u ?_
  have h1 : ∀ (l : List ActT) (k : Nat) (a : ActT), l[k]? = some a → (actV a)[j]? = some u → (l.flatMap actV)[k * 5 + j]? = some u := by
    intro l
    induction l with
    | nil => intro k a h; simp at h
    | cons x r ih =>
      intro k a h hu
      rw [List.flatMap_cons]
      cases k with
      | zero =>
        simp only [List.getElem?_cons_zero, Option.some.injEq] at h
        subst h
        rw [Nat.zero_mul, Nat.zero_add, List.getElem?_append_left (List.getElem?_eq_some_iff.1 hu).1]
        exact hu
      | succ k =>
        rw [List.getElem?_cons_succ] at h
        rw [List.getElem?_append_right (by rw [actV_len]; omega), actV_len, show (k + 1) * 5 + j - 5 = k * 5 + j by omega]
        exact ih k a h hu
  exact h1 l k _ (List.getElem?_eq_getElem hl) hu
section
variable {H : Type} {enc : TypeId × Value → H} {w : World} {r : Reach} {b0 base : Nat} {spare : Nat → Bool} {held : Bool}
theorem trod_wait {fuel : Nat} {cs : List Value} {y : DataW H × List MemPlace} (hl0 : cs.length = 4) (hf : DataW.trod enc Try.prog w base spare held fuel 29 cs = some y) :
    ∃ v, ∃ p : Wt, cs = wtV v p ∧ (∃ A n c, v = .slice A n c ∧ n = p.bs.length ∧ Sl w w.heap.size 1 A n (p.bs.map B)) ∧ p.rate < 2 ^ 64 := by
  obtain ⟨xs, n, _, _, hl, hxs, hg⟩ := DataW.trod_struct Try.underlying29 hf
  replace hg := fun i f h => hg i f h
  have hxs5 : xs.length = 4 := hxs
  obtain ⟨y0, h0⟩ := got (hg 0 _ rfl) (by omega)
  obtain ⟨y1, h1⟩ := got (hg 1 _ rfl) (by omega)
  obtain ⟨y2, h2⟩ := got (hg 2 _ rfl) (by omega)
  obtain ⟨y3, h3⟩ := got (hg 3 _ rfl) (by omega)
  replace h0 : DataW.trod enc Try.prog w base spare held n 3 ((cs.drop 0).take (Try.prog.cellsOf 3)) = some y0 := h0
  replace h1 : DataW.trod enc Try.prog w base spare held n 3 ((cs.drop 1).take (Try.prog.cellsOf 3)) = some y1 := h1
  replace h2 : DataW.trod enc Try.prog w base spare held n 26 ((cs.drop 2).take (Try.prog.cellsOf 26)) = some y2 := h2
  replace h3 : DataW.trod enc Try.prog w base spare held n 27 ((cs.drop 3).take (Try.prog.cellsOf 27)) = some y3 := h3
  rw [cells_intq] at h0 h1
  rw [cells_f64q] at h2
  rw [cells_su8q] at h3
  obtain ⟨z0, e0, _, w0⟩ := DataW.trod_int Try.underlying3 h0
  obtain ⟨z1, e1, _, w1⟩ := DataW.trod_int Try.underlying3 h1
  obtain ⟨x2, e2, w2⟩ := trod_f64 h2
  obtain ⟨A, m, c, bs, e3, hs, hm, _, hbl⟩ := open_u8s0 Try.underlying27 Try.underlying5 cells_u8q h3
  refine ⟨.slice A m c, ⟨z0, z1, x2, bs⟩, ?_, ⟨A, m, c, rfl, hbl.symm, hs⟩, w2⟩
  have a4 : cs.drop 4 = [] := List.drop_of_length_le (by omega)
  have a3 := cut_eq e3 a4
  have a2 := cut_eq e2 a3
  have a1 := cut_eq e1 a2
  have a0 := cut_eq e0 a1
  rw [List.drop_zero] at a0
  rw [a0]; simp [wtV]
theorem trod_act {fuel : Nat} {cs : List Value} {y : DataW H × List MemPlace} (hl0 : cs.length = 5) (hf : DataW.trod enc Try.prog w base spare held fuel 50 cs = some y) :
    ∃ a : ActT, cs = actV a ∧ AOK w a := by
  obtain ⟨xs, n, _, _, hl, hxs, hg⟩ := DataW.trod_struct Try.underlying50 hf
  replace hg := fun i f h => hg i f h
  have hxs5 : xs.length = 2 := hxs
  obtain ⟨y0, h0⟩ := got (hg 0 _ rfl) (by omega)
  obtain ⟨y1, h1⟩ := got (hg 1 _ rfl) (by omega)
  replace h0 : DataW.trod enc Try.prog w base spare held n 3 ((cs.drop 0).take (Try.prog.cellsOf 3)) = some y0 := h0
  replace h1 : DataW.trod enc Try.prog w base spare held n 29 ((cs.drop 1).take (Try.prog.cellsOf 29)) = some y1 := h1
  rw [cells_intq] at h0
  rw [cells_waitq] at h1
  obtain ⟨z0, e0, _, w0⟩ := DataW.trod_int Try.underlying3 h0
  obtain ⟨v, p, e1, hv, hr⟩ := trod_wait (by rw [List.length_take, List.length_drop, hl0]; rfl) h1
  refine ⟨(v, z0, p), ?_, hv, hr⟩
  have a5 : cs.drop 5 = [] := List.drop_of_length_le (by omega)
  have a1 := cut_eq e1 a5
  have a0 := cut_eq e0 a1
  rw [List.drop_zero] at a0
  rw [a0]; simp [actV]
theorem open_acts {v : Value} {d : DataW H} {ps : List MemPlace} (hval : Value.okWide Try.prog w r b0 47 v) (h : DataW.Trod enc Try.prog w base spare held 47 v d ps) :
    ∃ A n c, ∃ l : List ActT, v = .slice A n c ∧ ActsAt w A n l ∧ n ≤ 9223372036854775807 := by
  obtain ⟨A, n, c, l, h1, h2, h3, h4, h5, h6, _⟩ := open_list actV (fun a => AOK w a) Try.underlying47 cells_actq (show 0 < 5 by omega) (fun fuel cs y hl h => trod_act hl h) hval h
  exact ⟨A, n, c, l, h1, ⟨h2, h5, h6⟩, by unfold maxLen at h4; omega⟩
end
def GreatR (n : Nat) (l : List ActT) (w : World) (e : Ending) (w' : World) : Prop := ∃ r : Bool, e = .returned (.bool r) ∧ (r = false → n ≤ 80 ∧ ∀ a ∈ l, a.2.2.bs.length ≤ 60) ∧ w = w'
set_option maxHeartbeats 2000000 in
theorem qgreat_any {A : Option Addr} {n c : Nat} {l : List ActT} (w : World) (h : ActsAt w A n l) (hn : n ≤ 9223372036854775807) :
    Calls Try.prog 22 #[.slice A n c, .int .i64 80] w (GreatR n l w) := by
  have HA := Lib.hid h
  have HL := Lib.hid h.1
  clear h
  go_enter Try.func22, Try.ntmps22
  go_wp2_with fail
  go_loopw [5] (fun iv wr => ∃ k : Nat, k ≤ n ∧ k ≤ 80 ∧ iv = .int .i64 k ∧ Hid (∀ a ∈ l.take k, a.2.2.bs.length ≤ 60) ∧ wr = w) (fun iv _ => 80 - (intOf iv).toNat)
  case atStart => exact ⟨0, by omega, by omega, rfl, Lib.hid (by simp), rfl⟩
  case round =>
    obtain ⟨k, hk, hk80, rfl, hall, rfl⟩ := hrel
    by_cases hlt : k < n
    · by_cases hlt2 : k < 80
      · obtain ⟨b, off, a, rfl, ha, hc, hok⟩ := HA.out.at_ hlt
        obtain ⟨⟨A', n', c', e1, e2, e3⟩, _⟩ := hok
        have c4 : wr.cell? ⟨b, off + k * 5 + 4, none⟩ = some (.slice A' n' c') := (hc 4 _ rfl).trans (by rw [e1])
        have HSN := Lib.hid (show l.take (k + 1) = l.take k ++ [a] from take_snoc ha)
        have HN := Lib.hid e2
        have v1 : IntKind.i64.wrap ((k : Int) + 1) = (k : Int) + 1 := IntWalk.i64_in _ (by omega)
        have b1 : (k : Int) < 80 := by omega
        clear ha hc e1 e2 e3
        by_cases h60 : n' ≤ 60
        · have b2 : ¬ (60 < (n' : Int)) := by omega
          have HNX := Lib.hid (show ∀ a ∈ l.take (k + 1), a.2.2.bs.length ≤ 60 from fun x hx => by
            rw [HSN.out] at hx
            rcases List.mem_append.1 hx with hx | hx
            · exact hall.out x hx
            · rw [List.mem_singleton] at hx; subst hx; have := HN.out; omega)
          go_wp2_with fail
          go_roundw
          all_goals clear v1
          case rel => exact ⟨k + 1, by omega, by omega, by go_num, HNX, by first | trivial | rfl⟩
          case measure => simp [intOf]; omega
        · have b2 : (60 < (n' : Int)) := by omega
          clear v1
          go_wp2_with fail
          go_ret
          exact ⟨true, rfl, (fun h => by cases h), rfl⟩
      · obtain rfl : k = 80 := by omega
        have b3 : (80 : Int) < (n : Int) := by omega
        go_wp2_with fail
        go_ret
        exact ⟨true, rfl, (fun h => by cases h), rfl⟩
    · obtain rfl : k = n := by omega
      have b3 : ¬ ((80 : Int) < (k : Int)) := by omega
      have HNX := Lib.hid (show ∀ a ∈ l, a.2.2.bs.length ≤ 60 from fun x hx => hall.out x (by rw [List.take_of_length_le (by rw [HL.out]; exact Nat.le_refl _)]; exact hx))
      go_wp2_with fail
      go_ret
      exact ⟨false, rfl, (fun _ => ⟨hk80, HNX.out⟩), rfl⟩
end Go.Proofs.Ytmchpopllhnahaa

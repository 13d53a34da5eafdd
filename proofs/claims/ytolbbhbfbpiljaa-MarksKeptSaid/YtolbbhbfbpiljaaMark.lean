/- Contracts of marks.right and marks.clone, for marks without a path. -/
import Derived.Test.YtolbbhbfbpiljaaEnt
namespace Go.Proofs.Ytolbbhbfbpiljaa
open Go.RowKit
set_option linter.unusedVariables false

structure Mrk where
  e : Ent
  h : Hdr
  tag : List UInt8
  expiry : Int
def Mrk.ok (m : Mrk) : Prop := m.e.ok ∧ m.h.ok ∧ m.tag.length = 32 ∧ I64 m.expiry
def markV (m : Mrk) : List Value := entV m.e ++ (.slice none 0 0 :: (hdrV m.h ++ (m.tag.map B ++ [.int .i64 m.expiry])))
def markA (m : Mrk) : Value := .agg (markV m).toArray
theorem markV_length {m : Mrk} (h : m.ok) : (markV m).length = 138 := by
  simp [markV, entV_length h.1, hdrV_length h.2.1, h.2.2.1]
theorem mark_ent {m : Mrk} (h : m.ok) {j : Nat} {u : Value} (hu : (entV m.e)[j]? = some u) : (markV m)[j]? = some u := by
  have hj : j < (entV m.e).length := (List.getElem?_eq_some_iff.1 hu).1
  unfold markV; rw [List.getElem?_append_left hj]; exact hu
theorem mark_path {m : Mrk} (h : m.ok) : (markV m)[37]? = some (.slice none 0 0) := by
  unfold markV; rw [List.getElem?_append_right (by rw [entV_length h.1]; omega), entV_length h.1]; rfl
theorem mark_hdr {m : Mrk} (h : m.ok) {j : Nat} {u : Value} (hu : (hdrV m.h)[j]? = some u) : (markV m)[38 + j]? = some u := by
  have hj : j < (hdrV m.h).length := (List.getElem?_eq_some_iff.1 hu).1
  unfold markV
  rw [List.getElem?_append_right (by rw [entV_length h.1]; omega), entV_length h.1, show 38 + j - 37 = j + 1 by omega, List.getElem?_cons_succ, List.getElem?_append_left hj]
  exact hu
theorem mark_exp {m : Mrk} (h : m.ok) : (markV m)[137]? = some (.int .i64 m.expiry) := by
  unfold markV
  rw [List.getElem?_append_right (by rw [entV_length h.1]; omega), entV_length h.1, List.getElem?_cons_succ, List.getElem?_append_right (by rw [hdrV_length h.2.1]; omega), hdrV_length h.2.1, List.getElem?_append_right (by rw [List.length_map, h.2.2.1]; omega), List.length_map, h.2.2.1]
  rfl
theorem markV_one (m : Mrk) : ∀ u ∈ markV m, u.oneCell' = true := by
  intro u hu
  unfold markV entV hdrV at hu
  simp only [List.mem_append, List.mem_cons, List.mem_map, List.not_mem_nil, or_false] at hu
  rcases hu with (rfl | rfl | ⟨_, _, rfl⟩ | rfl | rfl | rfl) | rfl | (rfl | rfl | rfl | ⟨_, _, rfl⟩ | ⟨_, _, rfl⟩) | ⟨_, _, rfl⟩ | rfl <;> rfl
def noMrk : Mrk := ⟨noEnt, noHdr, List.replicate 32 0, 0⟩
theorem noMrk_ok : noMrk.ok := ⟨noEnt_ok, noHdr_ok, by simp [noMrk], by simp [noMrk, I64]⟩
theorem row_mark : RowT Try.prog 39 138 := ⟨_, Try.underlying39, by kernel_rfl, by kernel_rfl⟩
theorem zero_mark : (Try.prog.info? 39).map (·.zero) = some (some (.agg (markV noMrk).toArray)) := by kernel_rfl

theorem wpl_loadmw {P : Program} {ops : Array Oper} {rest : List Oper} {o : Oper} {a : Act} {w : World} {Q : Exit → Act → World → Prop} (hw : Region.wanted o (yielded ops a.tmps) = true) {T : TypeId} {x : Operand} (ho : o.op = .load T x) {n : Nat} (hT : RowT P T n) {b off : Nat} {cs : List Value} (hc : ∀ j u, cs[j]? = some u → w.cell? ⟨b, off + j, none⟩ = some u) (hx : a.eval x = .pointer (some ⟨b, off, none⟩)) (hn : cs.length = n)
    (h : wpList P ops Q rest (a.put o.dst (.agg cs.toArray)) w) : wpList P ops Q (o :: rest) a w := by
  refine wpl_wanted hw fun K hK => ?_
  obtain ⟨d, hu, hd, hi⟩ := hT
  have hrun := run_loadVar_mid (P := P) w b off T cs d hc hu (by cases d <;> simp_all) (by rw [hi, hn])
  unfold Oper.wp execOp
  simp only [ho, hx, Instr.loadAt, Instr.sureAddr, Sem.run_bind, Sem.run_pure, Result.andThen_ok, hrun]
  exact hK _ _ h
theorem isEp_any (n : Int) (w : World) : Calls Try.prog 78 #[.int .i64 n] w fun e w' => e = .returned (.bool (inB n 0 1099511627776)) ∧ w = w' := by
  unfold inB
  by_cases h : 0 ≤ n
  · rw [show decide (0 ≤ n) = true by simpa using h, Bool.true_and]
    go_enter Try.func78, Try.ntmps78
    go_wp2
    go_ret
    exact ⟨rfl, rfl⟩
  · rw [show decide (0 ≤ n) = false by simpa using h, Bool.false_and]
    have h2 : decide (0 ≤ n) = false := by simpa using h
    go_enter Try.func78, Try.ntmps78
    go_wp2
    go_ret
    exact ⟨rfl, rfl⟩

def rightM (m : Mrk) : Bool := rightE m.e && rightH m.h && inB m.expiry 0 1099511627776
set_option maxRecDepth 100000 in
set_option maxHeartbeats 1000000 in
theorem mright_any (m : Mrk) (w : World) (h : m.ok) : Calls Try.prog 49 #[markA m] w fun e w' => e = .returned (.bool (rightM m)) ∧ Below w.heap.size w w' := by
  have h1 := fun w => eright_any m.e w h.1
  have h2 := fun w => hright_any m.h w h.2.1
  have h3 := fun w => isEp_any m.expiry w
  unfold rightM
  have he := fun (j : Nat) u (hu : (entV m.e)[j]? = some u) => mark_ent h hu
  have hh := fun (j : Nat) u (hu : (hdrV m.h)[j]? = some u) => mark_hdr h hu
  have hp := mark_path h
  have hx := mark_exp h
  have le := entV_length h.1
  have lh := hdrV_length h.2.1
  unfold markA
  generalize markV m = xs at *
  generalize entV m.e = es at *
  generalize hdrV m.h = hs at *
  generalize rightE m.e = b1 at *
  generalize rightH m.h = b2 at *
  generalize inB m.expiry 0 1099511627776 = b3 at *
  generalize m.expiry = ex at *
  have H1 := Lib.hid h1; have H2 := Lib.hid h2; have H3 := Lib.hid h3
  have HE := Lib.hid he; have HH := Lib.hid hh; have HP := Lib.hid hp; have HX := Lib.hid hx; have LE := Lib.hid le; have LH := Lib.hid lh
  obtain ⟨g, hg⟩ : ∃ g, g = w.heap.size := ⟨_, rfl⟩
  have HG := Lib.hid hg
  clear h1 h2 h3 he hh hp hx le lh hg h
  go_enter Try.func49, Try.ntmps49
  go_wp2_with (first | (with_reducible refine wpl_box (o := ⟨some 1, _, _, _, _, _⟩) rfl rfl rfl ?_))
  intro w1 hb1 hbw1 hsz1
  rw [← HG.out] at hb1 hbw1 hsz1 ⊢
  have B1 := Lib.hid hb1
  have HB := Lib.hid hbw1
  have HZ := Lib.hid (show g ≤ w1.heap.size by omega)
  clear hb1 hbw1 hsz1
  have ME := Lib.hid (show ∀ j u, es[j]? = some u → w1.cell? ⟨g, 0 + j, none⟩ = some u from fun j u hu => by rw [Nat.zero_add]; exact B1.out.at_ (HE.out j u hu))
  go_wp2_with (first | (with_reducible refine wpl_loadm (o := ⟨some 5, _, _, _, _, _⟩) rfl rfl row_entry ME.out rfl LE.out ?_))
  refine (H1.out _).mono ?_
  rintro e w2 ⟨rfl, hb2⟩
  have B2 := Lib.hid (B1.out.call hb2)
  have HB2 := Lib.hid (HB.out.trans (hb2.mono HZ.out))
  have HZ2 := Lib.hid (Nat.le_trans HZ.out hb2.size)
  clear hb2
  cases b1
  · go_wp2_with fail
    go_ret
    exact ⟨rfl, by rw [← HG.out]; exact HB2.out⟩
  have MH := Lib.hid (show ∀ j u, hs[j]? = some u → w2.cell? ⟨g, 38 + j, none⟩ = some u from fun j u hu => B2.out.at_ (HH.out j u hu))
  go_wp2_with (first | (with_reducible refine wpl_loadmw (o := ⟨some _, .load _ _, _, _, _, _⟩) (by first | rfl | (go_simp; done) | fail) rfl row_header MH.out rfl LH.out ?_))
  refine (H2.out _).mono ?_
  rintro e w3 ⟨rfl, hb3⟩
  have B3 := Lib.hid (B2.out.call hb3)
  have HB3 := Lib.hid (HB2.out.trans (hb3.mono HZ2.out))
  clear hb3
  cases b2
  · go_wp2_with fail
    go_ret
    exact ⟨rfl, by rw [← HG.out]; exact HB3.out⟩
  have c37 := B3.out.at_ HP.out
  have c137 := B3.out.at_ HX.out
  go_wp2_with fail
  refine (H3.out _).mono ?_
  rintro e w4 ⟨rfl, rfl⟩
  go_wp2_with fail
  go_ret
  exact ⟨rfl, by rw [← HG.out]; exact HB3.out⟩
theorem mold_any (x y : Int) (w : World) (hx : I64 x) (hy : I64 y) : Calls Try.prog 48 #[.int .i64 x, .int .i64 y] w fun e w' => e = .returned (.bool (inB x 0 1099511627776 && inB y 0 1099511627776 && decide (x + 2 < y))) ∧ w = w' := by
  have H1 := Lib.hid (fun w => isEp_any x w)
  have H2 := Lib.hid (fun w => isEp_any y w)
  have hb := fun h => (show inB x 0 1099511627776 = true → 0 ≤ x ∧ x ≤ 1099511627776 by unfold inB; simp) h
  generalize inB x 0 1099511627776 = b1 at *
  generalize inB y 0 1099511627776 = b2 at *
  go_enter Try.func48, Try.ntmps48
  go_wp2_with fail
  refine (H1.out _).mono ?_
  rintro e w1 ⟨rfl, rfl⟩
  cases b1
  · go_wp2_with fail
    go_ret
    exact ⟨rfl, rfl⟩
  have hx2 := hb rfl
  go_wp2_with fail
  refine (H2.out _).mono ?_
  rintro e w1 ⟨rfl, rfl⟩
  cases b2
  · go_wp2_with fail
    go_ret
    exact ⟨rfl, rfl⟩
  go_wp2_with fail
  go_ret
  exact ⟨rfl, rfl⟩
end Go.Proofs.Ytolbbhbfbpiljaa

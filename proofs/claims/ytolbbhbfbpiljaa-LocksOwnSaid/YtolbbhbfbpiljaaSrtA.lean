/- The order of outputs, said to the draw: what a sort asks of it. -/
import Derived.Test.YtolbbhbfbpiljaaCoinA
import Derived.Shelf.SlSortCmp.NoneTotal
namespace Go.Proofs.Ytolbbhbfbpiljaa
open Go.RowKit
set_option linter.unusedVariables false
/-- Nothing old has turned; blocks have been laid, and draws made. -/
def Gr (w w' : World) : Prop := ∃ q os, w' = Go.Sort.grow (w.drewN q) os
theorem Gr.of {w w' : World} (h : Below w.heap.size w w') (hd : w.drawn ≤ w'.drawn) : Gr w w' := by
  refine ⟨w'.drawn - w.drawn, (w'.heap.toList.drop w.heap.size).toArray, ?_⟩
  obtain ⟨heap, tape, drawn, os, output⟩ := w
  obtain ⟨heap', tape', drawn', os', output'⟩ := w'
  obtain ⟨h1, h2, h3, h4, h5⟩ := h
  simp only at h1 h2 h3 h4 h5 hd
  subst h1 h2 h3
  unfold Go.Sort.grow World.drewN
  have e : heap' = heap ++ (heap'.toList.drop heap.size).toArray := by
    apply Array.ext_getElem?
    intro k
    rw [Array.getElem?_append]
    split
    · rename_i hk; exact h5 k hk
    · rename_i hk
      rw [show (heap'.toList.drop heap.size).toArray[k - heap.size]? = (heap'.toList.drop heap.size)[k - heap.size]? from by rw [List.getElem?_toArray], List.getElem?_drop, ← Array.getElem?_toList]
      congr 1; omega
  rw [World.mk.injEq]
  exact ⟨e, rfl, by simp only; omega, rfl, rfl⟩
theorem Gr.below {w w' : World} (h : Gr w w') : Below w.heap.size w w' := by
  obtain ⟨q, os, rfl⟩ := h
  exact ⟨rfl, rfl, rfl, by rw [Go.Sort.size_grow]; exact Nat.le_add_right _ _, fun k hk => by
    show (w.heap ++ os)[k]? = _
    rw [Array.getElem?_append_left hk]⟩
theorem Drawn.drawn {w w2 : World} (h : Drawn w w2) : w.drawn ≤ w2.drawn := by obtain ⟨m, rfl⟩ := h; exact Nat.le_add_right _ _
theorem wpl_boxd {P : Program} {w : World} {ops : Array Oper} {rest : List Oper} {o : Oper} {a : Act} {Q : Exit → Act → World → Prop} (hgd : o.guard = none) {T : TypeId} {x : Operand} (ho : o.op = .box T x) {cs : List Value} (hx : a.eval x = .agg cs.toArray)
    (h : ∀ w', Blk w' w.heap.size T cs → Below w.heap.size w w' → w'.heap.size = w.heap.size + 1 → w'.drawn = w.drawn → wpList P ops Q rest (a.put o.dst (.pointer (some ⟨w.heap.size, 0, none⟩))) w') : wpList P ops Q (o :: rest) a w := by
  refine wpList_plain hgd fun K hK => ?_
  have hrun : (Instr.box T (.agg cs.toArray)).run P w = .ok (.pointer (some ⟨w.heap.size, 0, none⟩)) (w.alloc (.cells cs.toArray T)) := by
    simp [Instr.box, newVar, newRow, Value.cells]
  unfold Oper.wp execOp
  simp only [ho, hx, Sem.run_bind, hrun, Result.andThen_ok, Sem.run_pure]
  exact hK _ _ (h _ (heap_alloc_new _ _) ((Below.refl _ _).alloc (Nat.le_refl _) _) (by simp) rfl)
set_option maxRecDepth 100000 in
theorem ccmpg_any (p q : List UInt8 × Int) (w : World) (hp : p.1.length = 32) (hq : q.1.length = 32) :
    Calls Try.prog 59 #[.agg (ptV p).toArray, .agg (ptV q).toArray] w fun e w' => e = .returned (.int .i64 (cmpP p q)) ∧ Gr w w' := by
  obtain ⟨xs, hxs⟩ : ∃ xs, xs = ptV p := ⟨_, rfl⟩
  obtain ⟨ys, hys⟩ : ∃ ys, ys = ptV q := ⟨_, rfl⟩
  obtain ⟨z, hz⟩ : ∃ z, z = cmpP p q := ⟨_, rfl⟩
  rw [← hxs, ← hys, ← hz]
  have HZ := Lib.hid hz; clear hz
  have HX := Lib.hid hxs; have HY := Lib.hid hys
  have HP := Lib.hid hp; have HQ := Lib.hid hq
  clear hxs hys hp hq
  go_enter Try.func59, Try.ntmps59
  go_wp2_with (first | (with_reducible refine wpl_boxd (o := ⟨some 2, _, _, _, _, _⟩) rfl rfl rfl ?_))
  intro w1 hb1 hbw1 hsz1 hdw1
  generalize hgd : w.heap.size = g at *
  go_wp2_with (first | (with_reducible refine wpl_boxd (o := ⟨some 3, _, _, _, _, _⟩) rfl rfl rfl ?_))
  intro w2 hb2 hbw2 hsz2 hdw2
  try rw [hsz1] at hb2 hsz2 ⊢
  have H2 := Lib.hid hb2
  have H1 := Lib.hid (hb1.below hbw2 (by omega))
  have HBW := Lib.hid (hbw1.trans (hbw2.mono (by omega)))
  have HSZ := Lib.hid (show g ≤ w2.heap.size by omega)
  have HDW := Lib.hid (show w.drawn ≤ w2.drawn by omega)
  clear hdw1 hdw2
  clear hb1 hb2 hbw1 hbw2 hsz1 hsz2
  generalize hg2 : g + 1 = g2 at *
  have c1 : w2.cell? ⟨g, 32, none⟩ = some (.int .i64 p.2) := H1.out.at_ (by rw [HX.out]; exact ptV_ix HP.out)
  have c2 : w2.cell? ⟨g2, 32, none⟩ = some (.int .i64 q.2) := H2.out.at_ (by rw [HY.out]; exact ptV_ix HQ.out)
  have s1 := Lib.hid (Blk.ptSl (p := p) (by rw [← HX.out]; exact H1.out) HP.out)
  have s2 := Lib.hid (Blk.ptSl (p := q) (by rw [← HY.out]; exact H2.out) HQ.out)
  have C1 := Lib.hid c1; have C2 := Lib.hid c2
  have HG := Lib.hid hgd
  clear c1 c2 hgd hg2
  repeat' (first | (with_reducible refine wp_tail (id := 1) 10 (by kernel_rfl) (by kernel_rfl) ?_) | go_values | go_skip | go_guarded | go_step | go_upon | go_back)
  intro w3 hd3
  simp only [List.take_succ_cons, List.take_zero, List.drop_succ_cons, List.drop_zero]
  have c1 := (hd3.cell _).trans C1.out
  have c2 := (hd3.cell _).trans C2.out
  have hbc := bcmp_any _ _ 32 32 32 32 p.1 q.1 w3 (hd3.sl s1.out) (hd3.sl s2.out)
  have hcc := cmpi_any p.2 q.2 w3
  have hoo := fun w => or_two (Lib.compareBytes p.1 q.1) (cmpI p.2 q.2) w
  rw [show (if Lib.compareBytes p.1 q.1 = 0 then cmpI p.2 q.2 else Lib.compareBytes p.1 q.1) = z from HZ.out.symm] at hoo
  generalize cmpI p.2 q.2 = y at *
  generalize Lib.compareBytes p.1 q.1 = x at *
  have HBC := Lib.hid hbc; have HCC := Lib.hid hcc; have HOO := Lib.hid hoo
  have HB3 := Lib.hid (hd3.below HBW.out)
  have HSZ3 := Lib.hid (show g ≤ w3.heap.size by rw [hd3.size]; exact HSZ.out)
  have HDW3 := Lib.hid (show w.drawn ≤ w3.drawn from Nat.le_trans HDW.out hd3.drawn)
  clear hbc hcc hd3 hoo
  repeat still_step
  still_call (HBC.out.mono fun _ _ ⟨he, hw⟩ => ⟨he, hw.symm⟩)
  repeat still_step
  still_call (HCC.out.mono fun _ _ ⟨he, hw⟩ => ⟨he, hw.symm⟩)
  repeat still_step
  try refine wpStill_nil ?_
  clear c1 c2
  go_wp2_with fail
  refine (HOO.out _).mono ?_
  rintro e w' ⟨rfl, rfl⟩
  go_wp2_with fail
  go_ret
  exact ⟨rfl, Gr.of (by rw [HG.out]; exact HB3.out.alloc HSZ3.out _) HDW3.out⟩

end Go.Proofs.Ytolbbhbfbpiljaa

/- Contracts of the document's eye: num, id, text. Printed by mkye.py. -/
import Derived.Test.YtphmefhnffoafaaTxReadsB10
import Derived.Test.YtphmefhnffoafaaTxReadsB11
import Derived.Test.YtphmefhnffoafaaTxReadsB9
import Derived.Test.YtphmefhnffoafaaTxReadsB7
import Derived.Test.YtphmefhnffoafaaTxReadsB5
import Derived.Deep.CutBlock
set_option linter.unusedSimpArgs false
/- Contracts of the document's eye: num, id, text. Printed by mkye.py. -/
namespace Go.Proofs.Ytphmefhnffoafaa
open Go.RowKit Go.Shelf
set_option linter.unusedVariables false
def YAt (w : World) (Bd g : Nat) (s : YS) : Prop := ∃ A c, Blk w g 52 [.slice A s.1.length c, .int .i64 (s.2 : Int)] ∧ Sl w Bd 1 A s.1.length (s.1.map B) ∧ s.1.length ≤ c ∧ Bd ≤ g ∧ s.1.length ≤ 1000000
section
variable {w w' : World} {Bd g : Nat} {s : YS}
theorem YAt.off {q : Nat} (h : YAt w Bd g s) (k : w.grownBy w' (some q)) (hq : Bd ≤ q) (hne : g ≠ q) : YAt w' Bd g s := by
  obtain ⟨A, c, h1, h2, h3, h4, h5⟩ := h
  have := h1.lt
  exact ⟨A, c, h1.grown k (fun e => hne (Option.some.inj e)), h2.grown k (by omega) (fun i e => by injection e with e; omega), h3, h4, h5⟩
theorem YAt.grow (h : YAt w Bd g s) (k : Grow w w') : YAt w' Bd g s := by
  obtain ⟨A, c, h1, h2, h3, h4, h5⟩ := h
  have := h1.lt
  exact ⟨A, c, h1.grow k, h2.below (k.mono (by omega)), h3, h4, h5⟩
theorem YAt.row {Z : Nat} {A : Option Addr} (h : YAt w Bd g s) (k : w.grownBy w' (A.map Addr.block)) (hA : ∀ q, A.map Addr.block = some q → Z ≤ q) (hZ : g < Z) : YAt w' Bd g s := by
  obtain ⟨A1, c, h1, h2, h3, h4, h5⟩ := h
  have := h1.lt
  exact ⟨A1, c, h1.grown k (fun e => by have := hA g e.symm; omega), h2.grown k (by omega) (fun i e => by have := hA i e; omega), h3, h4, h5⟩
theorem YAt.lt (h : YAt w Bd g s) : g < w.heap.size := by obtain ⟨A, c, h1, _⟩ := h; exact h1.lt
theorem YAt.bd (h : YAt w Bd g s) : Bd ≤ g := by obtain ⟨A, c, _, _, _, h4, _⟩ := h; exact h4
theorem YAt.len (h : YAt w Bd g s) : s.1.length ≤ 1000000 := by obtain ⟨A, c, _, _, _, _, h5⟩ := h; exact h5
end
set_option maxRecDepth 100000 in
set_option maxHeartbeats 4000000 in
theorem ynum_any {Bd g : Nat} {s : YS} {m : Nat} (hm : m ≤ 18446744073709551615) (w : World) (h : YAt w Bd g s) : Calls Try.prog 13 #[.pointer (some ⟨g, 0, none⟩), .int .u64 (m : Int)] w fun e w' => e = .returned (.int .u64 ((numY m s).1 : Int)) ∧ YAt w' Bd g (numY m s).2 ∧ w.grownBy w' (some g) := by
  obtain ⟨l, er⟩ := s
  obtain ⟨A, c, h1, h2, h3, h4, h5⟩ := h
  simp only at h1 h2 h3 h5
  have HS := Lib.hid h2; have HC := Lib.hid h3; have HBG := Lib.hid h4; have HL := Lib.hid h5
  have HY := Lib.hid h1
  have HBD := Lib.hid (show Bd ≤ w.heap.size by have := h1.lt; omega)
  clear h1 h2 h3 h4 h5
  have HG := Lib.hid (grownBy_refl w (some g))
  go_enter Try.func13, Try.ntmps13
  by_cases h0 : er = 0
  · subst h0
    have c0 := HY.out.at_ (i := 0) rfl
    have c1 : w.cell? ⟨g, 1, none⟩ = some (.int .i64 0) := HY.out.at_ (i := 1) rfl
    have TF := Lib.hid (bt_fldkn (k := 0) (n := (m : Int)))
    have HTK := Lib.hid (fun (w2 : World) (A : Option Addr) (n c : Nat) (l : List UInt8) (hs : Sl w2 Bd 1 A n (l.map B)) (hbd : Bd ≤ w2.heap.size) (hc : n ≤ c) (hn : n ≤ 1000000) => rtake_num (Bd := Bd) (m := m) w2 hs hbd hc hn hm)
    obtain ⟨fv, hfv⟩ : ∃ q, q = fieldV 0 (m : Int) nilS zeroD := ⟨_, rfl⟩
    rw [← hfv] at TF HTK
    clear hfv
    obtain ⟨ll, hll⟩ : ∃ q, q = l.length := ⟨_, rfl⟩
    have HLL := Lib.hid hll
    rw [← hll] at HS HC HL c0 HY
    clear hll
    go_wp2_with (first | (with_reducible refine wpl_stop (o := ⟨some 16, _, _, _, _, _⟩) ?_))
    refine stop_go ?_
    refine wpl_build rfl rfl TF.out ?_
    go_wp2_with fail
    refine (HTK.out _ _ _ _ l HS.out HBD.out HC.out HL.out).mono ?_
    rintro e w1 hr_
    obtain ⟨f, A2, c2, rfl, hcl, hfv, hs2, hc2, hb_⟩ : ∃ f A2 c2, e = .returned (.agg (gotV f ((numY m (l, 0)).2.2 : Int) (.slice A2 (numY m (l, 0)).2.1.length c2)).toArray) ∧ Cl 35 f ∧ (f[1]? = some (.int .u64 ((numY m (l, 0)).1 : Int))) ∧ Sl w1 Bd 1 A2 (numY m (l, 0)).2.1.length ((numY m (l, 0)).2.1.map B) ∧ (numY m (l, 0)).2.1.length ≤ c2 ∧ Grow w w1 := by
      obtain ⟨hb_, ⟨x, hx, rfl⟩ | ⟨v, t, f, A2, c2, hx, rfl, hcl, hfv, hs2, hc2⟩⟩ := hr_.get
      · have e1 : numY m (l, 0) = (0, ([], x)) := by unfold numY; exact stY_no rfl hx
        rw [e1]
        exact ⟨noF, none, 0, rfl, noF_cl, rfl, Sl.nil, Nat.le_refl _, hb_⟩
      · have e1 : numY m (l, 0) = (v, (t, 0)) := by unfold numY; exact stY_ok rfl hx
        rw [e1]
        exact ⟨f, A2, c2, rfl, hcl, by rw [show f = _ from hfv]; rfl, hs2, hc2, hb_⟩
    obtain ⟨rY, hrY⟩ : ∃ q, q = numY m (l, 0) := ⟨_, rfl⟩
    rw [← hrY] at hfv hs2 hc2 ⊢
    have HLY := Lib.hid (show rY.2.1.length ≤ 1000000 by rw [hrY]; exact Nat.le_trans (numY_len m (l, 0)) (by rw [← HLL.out]; exact HL.out))
    have HRY := Lib.hid hrY
    obtain ⟨v, t, er⟩ := rY
    simp only at hfv hs2 hc2 HLY ⊢
    have HFV := Lib.hid hfv; have HS2 := Lib.hid hs2; have HC2 := Lib.hid hc2
    have HQ := Lib.hid (gotV_cl (e := (er : Int)) (l := .slice A2 t.length c2) hcl rfl)
    have HQA := Lib.hid (gotV_at (e := (er : Int)) (l := .slice A2 t.length c2) hcl)
    have HQE := Lib.hid (show gotV f (er : Int) (.slice A2 t.length c2) = f ++ [.int .i64 (er : Int), .slice A2 t.length c2] from rfl)
    obtain ⟨tl, htl⟩ : ∃ q, q = t.length := ⟨_, rfl⟩
    rw [← htl] at HQ HQA HS2 HC2 HLY HQE ⊢
    have HTL := Lib.hid htl
    obtain ⟨qv, hqv⟩ : ∃ q, q = gotV f (er : Int) (.slice A2 tl c2) := ⟨_, rfl⟩
    rw [← hqv] at HQ HQA HQE ⊢
    have HY1 := Lib.hid (HY.out.grow hb_)
    have HG1 := Lib.hid (grownBy_grow HG.out hb_)
    have HBD1 := Lib.hid (Nat.le_trans HBD.out hb_.size)
    clear hr_ hfv hs2 hc2 hcl hqv htl hrY hb_ HY HG c0 c1 HS HBD HTK TF
    go_wp2_with (first | (with_reducible refine wpl_alloc (o := ⟨some 5, _, _, _, _, _⟩) rfl rfl zero_got ?_))
    intro w2 hb2 hbw hsz
    have HN := Lib.hid (show w1.heap.size ≤ w1.heap.size from Nat.le_refl _)
    have HGI := Lib.hid (show g ≠ w1.heap.size by have := HY1.out.lt; omega)
    have HC3 := Lib.hid hb2
    have HW0 := Lib.hid (show w.heap.size ≤ w1.heap.size from HG1.out.size)
    generalize hgi : w1.heap.size = gi at HGI HC3 HW0 ⊢
    have HN1 := Lib.hid (show w1.heap.size ≤ gi by omega)
    have HY2 := Lib.hid (HY1.out.grow hbw)
    have HG2 := Lib.hid (grown_of_below hbw (some g))
    clear hb2 hbw hsz hgi HY1
    go_wp2_with (first | (with_reducible refine wpl_storeb (o := ⟨none, .store _ _ _, _, _, _, _⟩) rfl rfl row_got HC3.out rfl rfl len_got HQ.out.len HQ.out.one ?_))
    intro w3 hb3 hg3 hsz3
    have HC4 := Lib.hid (show Blk w3 gi 77 qv from hb3)
    have HY3 := Lib.hid (HY2.out.grown hg3 (fun e => HGI.out (Option.some.inj e)))
    have HG3 := Lib.hid (grownBy_new HG2.out hg3 HN1.out)
    clear hb3 hg3 hsz3 HC3 HY2 HG2
    have cA := HC4.out.at_ (i := 36) HQA.out.2.1
    go_wp2_with (first | (refine wpl_store1 (o := ⟨none, .store _ _ _, _, _, _, _⟩) rfl rfl HY3.out rfl rfl (by kernel_rfl) rfl rfl (by simp) ?_))
    intro w4 hb4 hg4 hsz4
    have HY4 := Lib.hid (show Blk w4 g 52 [.slice A2 tl c2, .int .i64 0] from hb4)
    have HC5 := Lib.hid (HC4.out.grown hg4 (fun e => HGI.out (Option.some.inj e).symm))
    have HG4 := Lib.hid (grownBy_trans HG3.out hg4)
    clear hb4 hg4 hsz4 HC4 HY3 HG3 cA
    have cB := HC5.out.at_ (i := 35) HQA.out.1
    go_wp2_with (first | (refine wpl_store1 (o := ⟨none, .store _ _ _, _, _, _, _⟩) rfl rfl HY4.out rfl rfl (by kernel_rfl) rfl rfl (by simp) ?_))
    intro w5 hb5 hg5 hsz5
    have HY5 := Lib.hid (show Blk w5 g 52 [.slice A2 tl c2, .int .i64 (er : Int)] from hb5)
    have HC6 := Lib.hid (HC5.out.grown hg5 (fun e => HGI.out (Option.some.inj e).symm))
    have HG5 := Lib.hid (grownBy_trans HG4.out hg5)
    clear hb5 hg5 hsz5 HC5 HY4 HG4 cB
    have cC := HC6.out.at_ (i := 1) (HQA.out.2.2 1 _ HFV.out)
    go_wp2_with fail
    go_ret
    rw [← HRY.out]
    exact ⟨rfl, ⟨A2, c2, by rw [← HTL.out]; exact HY5.out, by rw [← HTL.out]; exact HS2.out.grown HG5.out HBD1.out (fun i e => by injection e with e; have := HBG.out; omega), by rw [← HTL.out]; exact HC2.out, HBG.out, by rw [← HTL.out]; exact HLY.out⟩, grownBy_trans HG1.out HG5.out⟩
  · have c1 : w.cell? ⟨g, 1, none⟩ = some (.int .i64 (er : Int)) := HY.out.at_ (i := 1) rfl
    have d1 : ((er : Int) != 0) = true := by simp; omega
    have HE1 := Lib.hid (show numY m (l, er) = (0, (l, er)) by unfold numY; exact stY_err h0)
    clear h0
    go_wp2_with fail
    go_ret
    exact ⟨by rw [HE1.out]; rfl, by rw [HE1.out]; exact ⟨A, c, HY.out, HS.out, HC.out, HBG.out, HL.out⟩, HG.out⟩
set_option maxRecDepth 100000 in
set_option maxHeartbeats 4000000 in
theorem ytext_any {Bd g : Nat} {s : YS} {m : Nat} (hm : m ≤ 18446744073709551615) (w : World) (h : YAt w Bd g s) : Calls Try.prog 15 #[.pointer (some ⟨g, 0, none⟩), .int .u64 (m : Int)] w fun e w' => (∃ A' c', e = .returned (.slice A' (textY m s).1.length c') ∧ Sl w' Bd 1 A' (textY m s).1.length ((textY m s).1.map B) ∧ (textY m s).1.length ≤ c') ∧ YAt w' Bd g (textY m s).2 ∧ w.grownBy w' (some g) := by
  obtain ⟨l, er⟩ := s
  obtain ⟨A, c, h1, h2, h3, h4, h5⟩ := h
  simp only at h1 h2 h3 h5
  have HS := Lib.hid h2; have HC := Lib.hid h3; have HBG := Lib.hid h4; have HL := Lib.hid h5
  have HY := Lib.hid h1
  have HBD := Lib.hid (show Bd ≤ w.heap.size by have := h1.lt; omega)
  clear h1 h2 h3 h4 h5
  have HG := Lib.hid (grownBy_refl w (some g))
  go_enter Try.func15, Try.ntmps15
  by_cases h0 : er = 0
  · subst h0
    have c0 := HY.out.at_ (i := 0) rfl
    have c1 : w.cell? ⟨g, 1, none⟩ = some (.int .i64 0) := HY.out.at_ (i := 1) rfl
    have TF := Lib.hid (bt_fldkn (k := 1) (n := (m : Int)))
    have HTK := Lib.hid (fun (w2 : World) (A : Option Addr) (n c : Nat) (l : List UInt8) (hs : Sl w2 Bd 1 A n (l.map B)) (hbd : Bd ≤ w2.heap.size) (hc : n ≤ c) (hn : n ≤ 1000000) => rtake_text (Bd := Bd) (m := m) w2 hs hbd hc hn hm)
    obtain ⟨fv, hfv⟩ : ∃ q, q = fieldV 1 (m : Int) nilS zeroD := ⟨_, rfl⟩
    rw [← hfv] at TF HTK
    clear hfv
    obtain ⟨ll, hll⟩ : ∃ q, q = l.length := ⟨_, rfl⟩
    have HLL := Lib.hid hll
    rw [← hll] at HS HC HL c0 HY
    clear hll
    go_wp2_with (first | (with_reducible refine wpl_stop (o := ⟨some 16, _, _, _, _, _⟩) ?_))
    refine stop_go ?_
    refine wpl_build rfl rfl TF.out ?_
    go_wp2_with fail
    refine (HTK.out _ _ _ _ l HS.out HBD.out HC.out HL.out).mono ?_
    rintro e w1 hr_
    obtain ⟨f, A2, c2, rfl, hcl, hfv, hs2, hc2, hb_⟩ : ∃ f A2 c2, e = .returned (.agg (gotV f ((textY m (l, 0)).2.2 : Int) (.slice A2 (textY m (l, 0)).2.1.length c2)).toArray) ∧ Cl 35 f ∧ (∃ A3 c3, f[2]? = some (.slice A3 (textY m (l, 0)).1.length c3) ∧ Sl w1 Bd 1 A3 (textY m (l, 0)).1.length ((textY m (l, 0)).1.map B) ∧ (textY m (l, 0)).1.length ≤ c3) ∧ Sl w1 Bd 1 A2 (textY m (l, 0)).2.1.length ((textY m (l, 0)).2.1.map B) ∧ (textY m (l, 0)).2.1.length ≤ c2 ∧ Grow w w1 := by
      obtain ⟨hb_, ⟨x, hx, rfl⟩ | ⟨v, t, f, A2, c2, hx, rfl, hcl, hfv, hs2, hc2⟩⟩ := hr_.get
      · have e1 : textY m (l, 0) = ([], ([], x)) := by unfold textY; exact stY_no rfl hx
        rw [e1]
        exact ⟨noF, none, 0, rfl, noF_cl, ⟨none, 0, rfl, Sl.nil, Nat.le_refl _⟩, Sl.nil, Nat.le_refl _, hb_⟩
      · have e1 : textY m (l, 0) = (v, (t, 0)) := by unfold textY; exact stY_ok rfl hx
        rw [e1]
        exact ⟨f, A2, c2, rfl, hcl, by obtain ⟨A3, c3, e3, h3, h4⟩ := hfv; exact ⟨A3, c3, by rw [e3]; rfl, h3, h4⟩, hs2, hc2, hb_⟩
    obtain ⟨rY, hrY⟩ : ∃ q, q = textY m (l, 0) := ⟨_, rfl⟩
    rw [← hrY] at hfv hs2 hc2 ⊢
    have HLY := Lib.hid (show rY.2.1.length ≤ 1000000 by rw [hrY]; exact Nat.le_trans (textY_len m (l, 0)) (by rw [← HLL.out]; exact HL.out))
    have HRY := Lib.hid hrY
    obtain ⟨v, t, er⟩ := rY
    simp only at hfv hs2 hc2 HLY ⊢
    have HFV := Lib.hid hfv; have HS2 := Lib.hid hs2; have HC2 := Lib.hid hc2
    have HQ := Lib.hid (gotV_cl (e := (er : Int)) (l := .slice A2 t.length c2) hcl rfl)
    have HQA := Lib.hid (gotV_at (e := (er : Int)) (l := .slice A2 t.length c2) hcl)
    have HQE := Lib.hid (show gotV f (er : Int) (.slice A2 t.length c2) = f ++ [.int .i64 (er : Int), .slice A2 t.length c2] from rfl)
    obtain ⟨tl, htl⟩ : ∃ q, q = t.length := ⟨_, rfl⟩
    rw [← htl] at HQ HQA HS2 HC2 HLY HQE ⊢
    have HTL := Lib.hid htl
    obtain ⟨qv, hqv⟩ : ∃ q, q = gotV f (er : Int) (.slice A2 tl c2) := ⟨_, rfl⟩
    rw [← hqv] at HQ HQA HQE ⊢
    have HY1 := Lib.hid (HY.out.grow hb_)
    have HG1 := Lib.hid (grownBy_grow HG.out hb_)
    have HBD1 := Lib.hid (Nat.le_trans HBD.out hb_.size)
    clear hr_ hfv hs2 hc2 hcl hqv htl hrY hb_ HY HG c0 c1 HS HBD HTK TF
    go_wp2_with (first | (with_reducible refine wpl_alloc (o := ⟨some 5, _, _, _, _, _⟩) rfl rfl zero_got ?_))
    intro w2 hb2 hbw hsz
    have HN := Lib.hid (show w1.heap.size ≤ w1.heap.size from Nat.le_refl _)
    have HGI := Lib.hid (show g ≠ w1.heap.size by have := HY1.out.lt; omega)
    have HC3 := Lib.hid hb2
    have HW0 := Lib.hid (show w.heap.size ≤ w1.heap.size from HG1.out.size)
    generalize hgi : w1.heap.size = gi at HGI HC3 HW0 ⊢
    have HN1 := Lib.hid (show w1.heap.size ≤ gi by omega)
    have HY2 := Lib.hid (HY1.out.grow hbw)
    have HG2 := Lib.hid (grown_of_below hbw (some g))
    clear hb2 hbw hsz hgi HY1
    go_wp2_with (first | (with_reducible refine wpl_storeb (o := ⟨none, .store _ _ _, _, _, _, _⟩) rfl rfl row_got HC3.out rfl rfl len_got HQ.out.len HQ.out.one ?_))
    intro w3 hb3 hg3 hsz3
    have HC4 := Lib.hid (show Blk w3 gi 77 qv from hb3)
    have HY3 := Lib.hid (HY2.out.grown hg3 (fun e => HGI.out (Option.some.inj e)))
    have HG3 := Lib.hid (grownBy_new HG2.out hg3 HN1.out)
    clear hb3 hg3 hsz3 HC3 HY2 HG2
    have cA := HC4.out.at_ (i := 36) HQA.out.2.1
    go_wp2_with (first | (refine wpl_store1 (o := ⟨none, .store _ _ _, _, _, _, _⟩) rfl rfl HY3.out rfl rfl (by kernel_rfl) rfl rfl (by simp) ?_))
    intro w4 hb4 hg4 hsz4
    have HY4 := Lib.hid (show Blk w4 g 52 [.slice A2 tl c2, .int .i64 0] from hb4)
    have HC5 := Lib.hid (HC4.out.grown hg4 (fun e => HGI.out (Option.some.inj e).symm))
    have HG4 := Lib.hid (grownBy_trans HG3.out hg4)
    clear hb4 hg4 hsz4 HC4 HY3 HG3 cA
    have cB := HC5.out.at_ (i := 35) HQA.out.1
    go_wp2_with (first | (refine wpl_store1 (o := ⟨none, .store _ _ _, _, _, _, _⟩) rfl rfl HY4.out rfl rfl (by kernel_rfl) rfl rfl (by simp) ?_))
    intro w5 hb5 hg5 hsz5
    have HY5 := Lib.hid (show Blk w5 g 52 [.slice A2 tl c2, .int .i64 (er : Int)] from hb5)
    have HC6 := Lib.hid (HC5.out.grown hg5 (fun e => HGI.out (Option.some.inj e).symm))
    have HG5 := Lib.hid (grownBy_trans HG4.out hg5)
    clear hb5 hg5 hsz5 HC5 HY4 HG4 cB
    obtain ⟨A3, c3, k1, k2, k3⟩ := HFV.out
    have cC := HC6.out.at_ (i := 2) (HQA.out.2.2 2 _ k1)
    have HK2 := Lib.hid k2; have HK3 := Lib.hid k3
    clear k1 k2 k3 HFV
    go_wp2_with fail
    go_ret
    rw [← HRY.out]
    exact ⟨⟨A3, c3, rfl, HK2.out.grown HG5.out HBD1.out (fun i e => by injection e with e; have := HBG.out; omega), HK3.out⟩, ⟨A2, c2, by rw [← HTL.out]; exact HY5.out, by rw [← HTL.out]; exact HS2.out.grown HG5.out HBD1.out (fun i e => by injection e with e; have := HBG.out; omega), by rw [← HTL.out]; exact HC2.out, HBG.out, by rw [← HTL.out]; exact HLY.out⟩, grownBy_trans HG1.out HG5.out⟩
  · have c1 : w.cell? ⟨g, 1, none⟩ = some (.int .i64 (er : Int)) := HY.out.at_ (i := 1) rfl
    have d1 : ((er : Int) != 0) = true := by simp; omega
    have HE1 := Lib.hid (show textY m (l, er) = ([], (l, er)) by unfold textY; exact stY_err h0)
    clear h0
    go_wp2_with fail
    go_ret
    exact ⟨by rw [HE1.out]; exact ⟨none, 0, rfl, Sl.nil, Nat.le_refl _⟩, by rw [HE1.out]; exact ⟨A, c, HY.out, HS.out, HC.out, HBG.out, HL.out⟩, HG.out⟩
set_option maxRecDepth 100000 in
set_option maxHeartbeats 4000000 in
theorem yid_any {Bd g : Nat} {s : YS} (w : World) (h : YAt w Bd g s) : Calls Try.prog 14 #[.pointer (some ⟨g, 0, none⟩)] w fun e w' => e = .returned (.agg ((idY s).1.map B).toArray) ∧ YAt w' Bd g (idY s).2 ∧ w.grownBy w' (some g) := by
  obtain ⟨l, er⟩ := s
  obtain ⟨A, c, h1, h2, h3, h4, h5⟩ := h
  simp only at h1 h2 h3 h5
  have HS := Lib.hid h2; have HC := Lib.hid h3; have HBG := Lib.hid h4; have HL := Lib.hid h5
  have HY := Lib.hid h1
  have HBD := Lib.hid (show Bd ≤ w.heap.size by have := h1.lt; omega)
  clear h1 h2 h3 h4 h5
  have HBW0 := Lib.hid HBD.out
  have BZ := Lib.hid built_id0
  have ZI := Lib.hid (show (Try.prog.info? 37).map (·.zero) = some (some (.agg (zeroD.map B).toArray)) by kernel_rfl)
  obtain ⟨zz, hzz⟩ : ∃ q, q = zeroD.map B := ⟨_, rfl⟩
  have HZE := Lib.hid hzz
  have HZC := Lib.hid (show Cl 32 zz by rw [hzz]; exact ⟨by simp [zeroD], all_bytes _⟩)
  rw [← hzz] at BZ ZI
  clear hzz
  go_enter Try.func14, Try.ntmps14
  go_wp2_with (first | (with_reducible refine wpl_alloc (o := ⟨some 2, _, _, _, _, _⟩) rfl rfl ZI.out ?_))
  intro w_ hb2_ hb_ hsz2_
  have HR := Lib.hid hb2_
  have HRG := Lib.hid (show g ≠ w.heap.size by have := HY.out.lt; omega)
  generalize hg_ : w.heap.size = g2 at HR HRG ⊢
  have HGN := Lib.hid (show w.heap.size ≤ g2 by omega)
  have HY_ := Lib.hid (HY.out.grow hb_); have HS_ := Lib.hid (HS.out.below (hb_.mono HBD.out)); have HG := Lib.hid (grown_of_below hb_ (some g)); have HBD_ := Lib.hid (Nat.le_trans HBD.out hb_.size)
  clear HY HS HBD hb2_ hb_ hsz2_ hg_
  have HY := HY_; have HS := HS_; have HBD := HBD_
  clear HY_ HS_ HBD_
  by_cases h0 : er = 0
  · subst h0
    have c0 := HY.out.at_ (i := 0) rfl
    have c1 : w_.cell? ⟨g, 1, none⟩ = some (.int .i64 0) := HY.out.at_ (i := 1) rfl
    have TF := Lib.hid (bt_fldk (k := 2))
    have HTK := Lib.hid (fun (w2 : World) (A : Option Addr) (n c : Nat) (l : List UInt8) (hs : Sl w2 Bd 1 A n (l.map B)) (hbd : Bd ≤ w2.heap.size) (hc : n ≤ c) (hn : n ≤ 1000000) => rtake_id (Bd := Bd) (m := 0) w2 hs hbd hc hn)
    obtain ⟨fv, hfv⟩ : ∃ q, q = fieldV 2 0 nilS zeroD := ⟨_, rfl⟩
    rw [← hfv] at TF HTK
    clear hfv
    obtain ⟨ll, hll⟩ : ∃ q, q = l.length := ⟨_, rfl⟩
    have HLL := Lib.hid hll
    rw [← hll] at HS HC HL c0 HY
    clear hll
    go_wp2_with (first | (with_reducible refine wpl_stop (o := ⟨some 14, _, _, _, _, _⟩) ?_))
    refine stop_go ?_
    refine wpl_build rfl rfl TF.out ?_
    go_wp2_with fail
    refine (HTK.out _ _ _ _ l HS.out HBD.out HC.out HL.out).mono ?_
    rintro e w1 hr_
    obtain ⟨f, A2, c2, rfl, hcl, hfv, hs2, hc2, hb_⟩ : ∃ f A2 c2, e = .returned (.agg (gotV f ((idY (l, 0)).2.2 : Int) (.slice A2 (idY (l, 0)).2.1.length c2)).toArray) ∧ Cl 35 f ∧ (∃ q : Value, f = [q, .int .u64 0, nilS] ++ (idY (l, 0)).1.map B) ∧ Sl w1 Bd 1 A2 (idY (l, 0)).2.1.length ((idY (l, 0)).2.1.map B) ∧ (idY (l, 0)).2.1.length ≤ c2 ∧ Grow w_ w1 := by
      obtain ⟨hb_, ⟨x, hx, rfl⟩ | ⟨v, t, f, A2, c2, hx, rfl, hcl, hfv, hs2, hc2⟩⟩ := hr_.get
      · have e1 : idY (l, 0) = (zeroD, ([], x)) := by unfold idY; exact stY_no rfl hx
        rw [e1]
        exact ⟨noF, none, 0, rfl, noF_cl, ⟨.int .i64 0, rfl⟩, Sl.nil, Nat.le_refl _, hb_⟩
      · have e1 : idY (l, 0) = (v, (t, 0)) := by unfold idY; exact stY_ok rfl hx
        rw [e1]
        exact ⟨f, A2, c2, rfl, hcl, ⟨.int .i64 2, hfv⟩, hs2, hc2, hb_⟩
    obtain ⟨rY, hrY⟩ : ∃ q, q = idY (l, 0) := ⟨_, rfl⟩
    rw [← hrY] at hfv hs2 hc2 ⊢
    have HLY := Lib.hid (show rY.2.1.length ≤ 1000000 by rw [hrY]; exact Nat.le_trans (idY_len (l, 0)) (by rw [← HLL.out]; exact HL.out))
    have HVL := Lib.hid (show rY.1.length = 32 by rw [hrY]; exact idY_32 (l, 0))
    have HRY := Lib.hid hrY
    obtain ⟨v, t, er⟩ := rY
    simp only at hfv hs2 hc2 HLY ⊢
    have HFV := Lib.hid hfv; have HS2 := Lib.hid hs2; have HC2 := Lib.hid hc2
    have HQ := Lib.hid (gotV_cl (e := (er : Int)) (l := .slice A2 t.length c2) hcl rfl)
    have HQA := Lib.hid (gotV_at (e := (er : Int)) (l := .slice A2 t.length c2) hcl)
    have HQE := Lib.hid (show gotV f (er : Int) (.slice A2 t.length c2) = f ++ [.int .i64 (er : Int), .slice A2 t.length c2] from rfl)
    obtain ⟨tl, htl⟩ : ∃ q, q = t.length := ⟨_, rfl⟩
    rw [← htl] at HQ HQA HS2 HC2 HLY HQE ⊢
    have HTL := Lib.hid htl
    obtain ⟨qv, hqv⟩ : ∃ q, q = gotV f (er : Int) (.slice A2 tl c2) := ⟨_, rfl⟩
    rw [← hqv] at HQ HQA HQE ⊢
    have HY1 := Lib.hid (HY.out.grow hb_)
    have HG1 := Lib.hid (grownBy_grow HG.out hb_)
    have HBD1 := Lib.hid (Nat.le_trans HBD.out hb_.size)
    have HR1 := Lib.hid (HR.out.grow hb_)
    clear hr_ hfv hs2 hc2 hcl hqv htl hrY hb_ HY HG c0 c1 HS HBD HTK TF HR
    go_wp2_with (first | (with_reducible refine wpl_alloc (o := ⟨some 3, _, _, _, _, _⟩) rfl rfl zero_got ?_))
    intro w2 hb2 hbw hsz
    have HN := Lib.hid (show w1.heap.size ≤ w1.heap.size from Nat.le_refl _)
    have HGI := Lib.hid (show g ≠ w1.heap.size by have := HY1.out.lt; omega)
    have HC3 := Lib.hid hb2
    have HW0 := Lib.hid (show w.heap.size ≤ w1.heap.size from HG1.out.size)
    have HRI := Lib.hid (show g2 ≠ w1.heap.size by have := HR1.out.lt; omega)
    generalize hgi : w1.heap.size = gi at HGI HC3 HW0 HRI ⊢
    have HN1 := Lib.hid (show w1.heap.size ≤ gi by omega)
    have HY2 := Lib.hid (HY1.out.grow hbw)
    have HG2 := Lib.hid (grown_of_below hbw (some g))
    have HR2 := Lib.hid (HR1.out.grow hbw)
    clear hb2 hbw hsz hgi HY1
    go_wp2_with (first | (with_reducible refine wpl_storeb (o := ⟨none, .store _ _ _, _, _, _, _⟩) rfl rfl row_got HC3.out rfl rfl len_got HQ.out.len HQ.out.one ?_))
    intro w3 hb3 hg3 hsz3
    have HC4 := Lib.hid (show Blk w3 gi 77 qv from hb3)
    have HY3 := Lib.hid (HY2.out.grown hg3 (fun e => HGI.out (Option.some.inj e)))
    have HG3 := Lib.hid (grownBy_new HG2.out hg3 HN1.out)
    have HR3 := Lib.hid (HR2.out.grown hg3 (fun e => HRI.out (Option.some.inj e)))
    clear hb3 hg3 hsz3 HC3 HY2 HG2
    have cA := HC4.out.at_ (i := 36) HQA.out.2.1
    go_wp2_with (first | (refine wpl_store1 (o := ⟨none, .store _ _ _, _, _, _, _⟩) rfl rfl HY3.out rfl rfl (by kernel_rfl) rfl rfl (by simp) ?_))
    intro w4 hb4 hg4 hsz4
    have HY4 := Lib.hid (show Blk w4 g 52 [.slice A2 tl c2, .int .i64 0] from hb4)
    have HC5 := Lib.hid (HC4.out.grown hg4 (fun e => HGI.out (Option.some.inj e).symm))
    have HG4 := Lib.hid (grownBy_trans HG3.out hg4)
    have HR4 := Lib.hid (HR3.out.grown hg4 (fun e => HRG.out (Option.some.inj e).symm))
    clear hb4 hg4 hsz4 HC4 HY3 HG3 cA
    have cB := HC5.out.at_ (i := 35) HQA.out.1
    go_wp2_with (first | (refine wpl_store1 (o := ⟨none, .store _ _ _, _, _, _, _⟩) rfl rfl HY4.out rfl rfl (by kernel_rfl) rfl rfl (by simp) ?_))
    intro w5 hb5 hg5 hsz5
    have HY5 := Lib.hid (show Blk w5 g 52 [.slice A2 tl c2, .int .i64 (er : Int)] from hb5)
    have HC6 := Lib.hid (HC5.out.grown hg5 (fun e => HGI.out (Option.some.inj e).symm))
    have HG5 := Lib.hid (grownBy_trans HG4.out hg5)
    have HR5 := Lib.hid (HR4.out.grown hg5 (fun e => HRG.out (Option.some.inj e).symm))
    clear hb5 hg5 hsz5 HC5 HY4 HG4 cB
    obtain ⟨q, k1⟩ := HFV.out
    have HVC := Lib.hid (show Cl 32 (v.map B) from ⟨by rw [List.length_map]; exact HVL.out, all_bytes _⟩)
    have HCM := Lib.hid (show ∀ j u, (v.map B)[j]? = some u → w5.cell? ⟨gi, 3 + j, none⟩ = some u from fun j u hu => HC6.out.at_ (by
      rw [HQE.out, k1]
      have hj : j < (v.map B).length := (List.getElem?_eq_some_iff.1 hu).1
      rw [List.append_assoc, List.getElem?_append_right (by simp), List.getElem?_append_left (by simp at hj ⊢; omega)]
      simpa using hu))
    obtain ⟨vv, hvv⟩ : ∃ q, q = v.map B := ⟨_, rfl⟩
    have HVV := Lib.hid hvv
    rw [← hvv] at HVC HCM
    clear k1 HFV hvv
    go_wp2_with (first | (with_reducible refine wpl_loadm (o := ⟨some 28, _, _, _, _, _⟩) rfl rfl row_id HCM.out rfl HVC.out.len ?_) | (with_reducible refine wpl_storeb (o := ⟨none, .store _ _ _, _, _, _, _⟩) rfl rfl row_id HR5.out rfl rfl HZC.out.len HVC.out.len HVC.out.one ?_))
    intro w6 hb6 hg6 hsz6
    have HY6 := Lib.hid (HY5.out.grown hg6 (fun e => HRG.out (Option.some.inj e)))
    have HR6 := Lib.hid hb6
    have HG6 := Lib.hid hg6
    clear hb6 hg6 hsz6 HY5
    go_wp2_with fail
    refine ret_cell rfl row_id HR6.out rfl HVC.out.len rfl ?_
    have HS3 := (HS2.out.grown HG5.out HBD1.out (fun i e => by injection e with e; have := HBG.out; omega)).grown HG6.out (Nat.le_trans HBD1.out HG5.out.size) (fun i e => by injection e with e; have := HBG.out; have := HGN.out; have := HY6.out.lt; have := HBW0.out; omega)
    rw [← HRY.out]
    exact ⟨by rw [HVV.out], ⟨A2, c2, by rw [← HTL.out]; exact HY6.out, by rw [← HTL.out]; exact HS3, by rw [← HTL.out]; exact HC2.out, HBG.out, by rw [← HTL.out]; exact HLY.out⟩, grownBy_new (grownBy_trans HG1.out HG5.out) HG6.out HGN.out⟩
  · have c1 : w_.cell? ⟨g, 1, none⟩ = some (.int .i64 (er : Int)) := HY.out.at_ (i := 1) rfl
    have d1 : ((er : Int) != 0) = true := by simp; omega
    have HE1 := Lib.hid (show idY (l, er) = (zeroD, (l, er)) by unfold idY; exact stY_err h0)
    clear h0
    go_wp2_with (first | (with_reducible refine wpl_stop (o := ⟨some 9, _, _, _, _, _⟩) ?_))
    refine stop_go ?_
    refine wpl_build rfl rfl BZ.out ?_
    go_wp2_with (first | (with_reducible refine wpl_storeb (o := ⟨none, .store _ _ _, _, _, _, _⟩) rfl rfl row_id HR.out rfl rfl HZC.out.len HZC.out.len HZC.out.one ?_))
    intro w6 hb6 hg6 hsz6
    have HY6 := Lib.hid (HY.out.grown hg6 (fun e => HRG.out (Option.some.inj e)))
    have HS6 := Lib.hid (HS.out.grown hg6 HBD.out (fun i e => by injection e with e; have := HBW0.out; have := HGN.out; omega))
    have HR6 := Lib.hid hb6
    have HG6 := Lib.hid (grownBy_new HG.out hg6 HGN.out)
    clear hb6 hg6 hsz6 HY HS
    go_wp2_with fail
    refine ret_cell rfl row_id HR6.out rfl HZC.out.len rfl ?_
    exact ⟨by rw [HE1.out, HZE.out], by rw [HE1.out]; exact ⟨A, c, HY6.out, HS6.out, HC.out, HBG.out, HL.out⟩, HG6.out⟩
end Go.Proofs.Ytphmefhnffoafaa

/- The contract of tx.amounts. -/
namespace Go.Proofs.Ytphmefhnffoafaa
open Go.RowKit Go.Shelf
set_option linter.unusedVariables false
theorem fm_at {α : Type} (f : α → List Value) (sz : Nat) : ∀ (l : List α) (k j : Nat) (x : α) (u : Value), (∀ y ∈ l, (f y).length = sz) → l[k]? = some x → (f x)[j]? = some u → (l.flatMap f)[k * sz + j]? = some u
  | [], k, j, x, u, _, hx, _ => by simp at hx
  | y :: l, 0, j, x, u, hl, hx, hu => by
    simp only [List.getElem?_cons_zero, Option.some.injEq] at hx
    subst hx
    rw [List.flatMap_cons, Nat.zero_mul, Nat.zero_add, List.getElem?_append_left (List.getElem?_eq_some_iff.1 hu).1]; exact hu
  | y :: l, k + 1, j, x, u, hl, hx, hu => by
    rw [List.getElem?_cons_succ] at hx
    have e1 : (f y).length = sz := hl y (List.mem_cons_self ..)
    rw [List.flatMap_cons, List.getElem?_append_right (by rw [e1, Nat.succ_mul]; omega), e1, show (k + 1) * sz + j - sz = k * sz + j by rw [Nat.succ_mul]; omega]
    exact fm_at f sz l k j x u (fun z hz => hl z (List.mem_cons_of_mem _ hz)) hx hu
theorem inV_cl {w : World} {Bd : Nat} {p : Value × Inp} (h : InOK w Bd p) : Cl 35 (inV p.1 p.2) := by
  refine ⟨inV_len h.2, fun u hu => ?_⟩
  obtain ⟨A, c, e, _, _⟩ := h.1
  unfold inV at hu
  simp only [List.mem_append, List.mem_map, List.mem_cons, List.not_mem_nil, or_false] at hu
  rcases hu with ⟨_, _, rfl⟩ | rfl | rfl | rfl
  · rfl
  · rfl
  · rfl
  · rw [e]; rfl
theorem outV_cl {o : Outp} (h : o.ok) : Cl 33 (outV o) := by
  refine ⟨outV_len h, fun u hu => ?_⟩
  unfold outV at hu
  simp only [List.mem_append, List.mem_map, List.mem_cons, List.not_mem_nil, or_false] at hu
  rcases hu with ⟨_, _, rfl⟩ | rfl <;> rfl
theorem InsAt.at_ {w : World} {A : Option Addr} {n c : Nat} {l : List (Value × Inp)} (h : InsAt w A n c l) {k : Nat} (hk : k < n) :
    ∃ b off p, A = some ⟨b, off, none⟩ ∧ l[k]? = some p ∧ InOK w w.heap.size p ∧ ∀ j u, (inV p.1 p.2)[j]? = some u → w.cell? ⟨b, off + k * 35 + j, none⟩ = some u := by
  obtain ⟨hs, ho, hl, _⟩ := h
  obtain ⟨b, off, e, hb, hc⟩ := hs.2 (by omega)
  have hk2 : k < l.length := by omega
  refine ⟨b, off, l[k], e, List.getElem?_eq_getElem hk2, ho _ (List.getElem_mem hk2), fun j u hu => ?_⟩
  have h2 := hc (k * 35 + j) u (fm_at (fun p : Value × Inp => inV p.1 p.2) 35 l k j _ u (fun y hy => inV_len (ho y hy).2) (List.getElem?_eq_getElem hk2) hu)
  rw [← Nat.add_assoc] at h2; exact h2
theorem OutsAt.at_ {w : World} {A : Option Addr} {n c : Nat} {l : List Outp} (h : OutsAt w A n c l) {k : Nat} (hk : k < n) :
    ∃ b off p, A = some ⟨b, off, none⟩ ∧ l[k]? = some p ∧ p.ok ∧ ∀ j u, (outV p)[j]? = some u → w.cell? ⟨b, off + k * 33 + j, none⟩ = some u := by
  obtain ⟨hs, ho, hl, _⟩ := h
  obtain ⟨b, off, e, hb, hc⟩ := hs.2 (by omega)
  have hk2 : k < l.length := by omega
  refine ⟨b, off, l[k], e, List.getElem?_eq_getElem hk2, ho _ (List.getElem_mem hk2), fun j u hu => ?_⟩
  have h2 := hc (k * 33 + j) u (fm_at outV 33 l k j _ u (fun y hy => outV_len (ho y hy)) (List.getElem?_eq_getElem hk2) hu)
  rw [← Nat.add_assoc] at h2; exact h2
def zeroIn : List Value := inV nilS ⟨zeroD, 0, 0, []⟩
def zeroOut : List Value := outV ⟨zeroD, 0⟩
theorem zero_tin : (Try.prog.info? 41).map (·.zero) = some (some (.agg zeroIn.toArray)) := by kernel_rfl
theorem zero_tout : (Try.prog.info? 43).map (·.zero) = some (some (.agg zeroOut.toArray)) := by kernel_rfl
theorem len_tin : zeroIn.length = 35 := by simp [zeroIn, inV, zeroD]
theorem len_tout : zeroOut.length = 33 := by simp [zeroOut, outV, zeroD]
def txV (A : Option Addr) (n c : Nat) (A2 : Option Addr) (n2 c2 : Nat) (fee ex : Int) : List Value := [.slice A n c, .slice A2 n2 c2, .int .u64 fee, .int .i64 ex]
theorem txV_cl {A : Option Addr} {n c : Nat} {A2 : Option Addr} {n2 c2 : Nat} {fee ex : Int} : Cl 4 (txV A n c A2 n2 c2 fee ex) := ⟨rfl, fun u hu => by simp only [txV, List.mem_cons, List.not_mem_nil, or_false] at hu; rcases hu with rfl | rfl | rfl | rfl <;> rfl⟩
def amI (l : List (Value × Inp)) : List Int := l.map fun p => p.2.amount
def amO (l : List Outp) : List Int := l.map Outp.amount
theorem am_snoc {α : Type} (f : α → Int) {l : List α} {k : Nat} {p : α} (h : l[k]? = some p) : ((l.take (k + 1)).map f).map (Value.int .u64) = ((l.take k).map f).map (Value.int .u64) ++ [.int .u64 (f p)] := by
  rw [take_snoc h]; simp
def OwnU (w : World) (base : Nat) (A : Option Addr) (n c : Nat) (zs : List Value) : Prop := w.ownsRow base 26 1 (.slice A n c) n zs
theorem OwnU.grow {w w' : World} {base n c : Nat} {A : Option Addr} {zs : List Value} (h : OwnU w base A n c zs) (k : Grow w w') : OwnU w' base A n c zs := own_below h k
set_option maxRecDepth 100000 in
set_option maxHeartbeats 4000000 in
theorem amounts_any {A : Option Addr} {n c : Nat} {A2 : Option Addr} {n2 c2 : Nat} {fee ex : Int} {l : List (Value × Inp)} {os : List Outp} (w : World) (hi : InsAt w A n c l) (ho : OutsAt w A2 n2 c2 os) (hn : n ≤ 1000000) (hn2 : n2 ≤ 1000000) :
    Calls Try.prog 18 #[.agg (txV A n c A2 n2 c2 fee ex).toArray] w fun e w' => ∃ A3 c3 A4 c4, e = .returned (.tuple #[.slice A3 n c3, .slice A4 n2 c4]) ∧ OwnU w' w.heap.size A3 n c3 ((amI l).map (Value.int .u64)) ∧ OwnU w' w.heap.size A4 n2 c4 ((amO os).map (Value.int .u64)) ∧ Grow w w' := by
  have HI := Lib.hid hi; have HO := Lib.hid ho
  have HTC := Lib.hid (txV_cl (A := A) (n := n) (c := c) (A2 := A2) (n2 := n2) (c2 := c2) (fee := fee) (ex := ex))
  have HT0 := Lib.hid (show (txV A n c A2 n2 c2 fee ex)[0]? = some (.slice A n c) from rfl)
  have HT1 := Lib.hid (show (txV A n c A2 n2 c2 fee ex)[1]? = some (.slice A2 n2 c2) from rfl)
  obtain ⟨tv, htv⟩ : ∃ q, q = txV A n c A2 n2 c2 fee ex := ⟨_, rfl⟩
  rw [← htv] at HTC HT0 HT1 ⊢
  obtain ⟨w_, hw⟩ : ∃ x, x = w := ⟨_, rfl⟩
  have HB := Lib.hid (show Below w.heap.size w w_ by rw [hw]; exact Below.refl _ _)
  suffices H : Calls Try.prog 18 #[.agg tv.toArray] w_ fun e w' => ∃ A3 c3 A4 c4, e = .returned (.tuple #[.slice A3 n c3, .slice A4 n2 c4]) ∧ OwnU w' w.heap.size A3 n c3 ((amI l).map (Value.int .u64)) ∧ OwnU w' w.heap.size A4 n2 c4 ((amO os).map (Value.int .u64)) ∧ Grow w w' by rw [hw] at H; exact H
  clear hw hi ho htv
  go_enter Try.func18, Try.ntmps18
  go_wp2_with (first | (with_reducible refine wpl_box (o := ⟨some 1, _, _, _, _, _⟩) rfl rfl rfl ?_))
  intro w2_ hb2_ hb_ hsz2_
  have HX_ := Lib.hid (at_mk hb2_ HTC.out.len)
  clear hb2_ hsz2_
  have HG_ := Lib.hid HB.out.size
  have HB_ := Lib.hid (HB.out.grow' hb_)
  clear HB
  have HB := HB_
  clear HB_
  generalize hg_ : w_.heap.size = g1 at HX_ HG_ ⊢
  clear hg_
  have HX_g := HG_
  clear HG_
  have HX := HX_
  clear hb_ HX_
  try clear w_
  rename World => w_
  have c0 := HX.out.blk.at_ HT0.out
  go_upto_block 0 with fail
  go_cut [2] from 8 (fun s2 wr => ∃ A3 c3, s2 = .slice A3 n c3 ∧ Hid (OwnU wr (g1 + 1) A3 n c3 ((amI l).map (Value.int .u64)) ∧ At wr g1 28 4 tv ∧ Below w.heap.size w wr))
  case first =>
    go_wp2_with fail
    go_loopw [2, 11] (fun s2 iv wr => ∃ k : Nat, ∃ A3 c3, k ≤ n ∧ iv = .int .i64 k ∧ s2 = .slice A3 k c3 ∧ Hid (OwnU wr (g1 + 1) A3 k c3 (((l.take k).map fun p => p.2.amount).map (Value.int .u64)) ∧ At wr g1 28 4 tv ∧ Below w.heap.size w wr)) (fun _ iv _ => n - (intOf iv).toNat)
    case atStart => exact ⟨0, none, 0, by omega, rfl, rfl, Lib.hid ⟨World.ownsRow_nil _ _ _ _, HX.out, HB.out⟩⟩
    case round =>
      obtain ⟨k, A3, c3, hk, rfl, rfl, hI⟩ := hrel
      clear HX HB c0
      have HR := Lib.hid hI.out.1; have HX := Lib.hid hI.out.2.1; have HB := Lib.hid hI.out.2.2
      clear hI
      rename World => w_
      by_cases hlt : k < n
      · have HII := Lib.hid (HI.out.grow HB.out)
        obtain ⟨b, off, p, rfl, hp, hok, hc⟩ := HII.out.at_ hlt
        have HC := Lib.hid hc; have HP := Lib.hid hp
        have HPC := Lib.hid (inV_cl hok)
        have HP33 := Lib.hid (in_at (v := p.1) hok.2).2.1
        have HSN := Lib.hid (am_snoc (fun q : Value × Inp => q.2.amount) hp)
        obtain ⟨pv, hpv⟩ : ∃ q, q = inV p.1 p.2 := ⟨_, rfl⟩
        obtain ⟨am, ham⟩ : ∃ q, q = p.2.amount := ⟨_, rfl⟩
        rw [← hpv] at HC HPC
        rw [← hpv, ← ham] at HP33
        rw [← ham] at HSN
        obtain ⟨xs, hxs⟩ : ∃ q, q = (((l.take k).map fun p => p.2.amount).map (Value.int .u64)) := ⟨_, rfl⟩
        rw [← hxs] at HR HSN
        clear hp hok hc hpv ham HII hxs
        go_wp2_with (first | (with_reducible refine wpl_loadm (o := ⟨some 14, _, _, _, _, _⟩) rfl rfl row_tin HC.out rfl HPC.out.len ?_) | (with_reducible refine wpl_alloc (o := ⟨some 5, _, _, _, _, _⟩) rfl rfl zero_tin ?_))
        intro w1_ hb1_ hbw1_ hsz1_
        have HB1_ := Lib.hid (at_mk hb1_ len_tin)
        have HBW1_ := Lib.hid hbw1_
        have HZ1_ := Lib.hid hsz1_
        clear hb1_ hbw1_ hsz1_
        go_wp2_with (first | (with_reducible refine wpl_storeb (o := ⟨none, .store _ _ _, _, _, _, _⟩) rfl rfl row_tin HB1_.out.blk rfl rfl HB1_.out.len HPC.out.len HPC.out.one ?_))
        intro w2_ hb2_ hg2_ hsz2_
        have hb_ := var_grow HBW1_.out HZ1_.out hg2_
        have HX_ := Lib.hid (at_mk hb2_ HPC.out.len)
        clear hb2_ hg2_ hsz2_ HB1_ HBW1_ HZ1_
        have HB_ := Lib.hid (HB.out.grow' hb_)
        clear HB
        have HB := HB_
        clear HB_
        have HX_ := Lib.hid (HX.out.grow hb_)
        clear HX
        have HX := HX_
        clear HX_
        have HR_ := Lib.hid (HR.out.grow hb_)
        clear HR
        have HR := HR_
        clear HR_
        generalize hg_ : w_.heap.size = g5 at HX_ ⊢
        clear hg_
        have HE := HX_
        clear hb_ HX_
        clear w1_
        try clear w_
        rename World => w_
        have c33 := HE.out.blk.at_ HP33.out
        have HGZ := Lib.hid (show g1 + 1 ≤ w_.heap.size by have := HX.out.lt; omega)
        have HR3 := Lib.hid (show w_.ownsRow (g1 + 1) 26 1 (.slice A3 k c3) k xs from HR.out)
        go_wp2_with (first | (at_builtin; refine wpl_app1 rfl rfl el_us HR3.out rfl (m := 1) rfl ?_ ?_ ?_ ?_ ?_ ?_))
        · rfl
        · rfl
        · omega
        · omega
        · exact HGZ.out
        intro A4 c4 w4_ ho_ hg_ hA_
        have hne_ := own_from HR3.out
        have HX_ := Lib.hid (show At w4_ g1 28 4 tv from at_mk (HX.out.blk.grown hg_ (fun h => by have := hne_ _ h.symm; omega)) HX.out.len)
        have HB_ := Lib.hid (below_grown HB.out hg_ HB.out.size (fun x hx => by have := hne_ _ hx; have := HX_g.out; omega))
        have HR_ := Lib.hid (show OwnU w4_ (g1 + 1) A4 (k + 1) c4 (((l.take (k + 1)).map fun p => p.2.amount).map (Value.int .u64)) by rw [HSN.out]; exact ho_)
        clear ho_ hg_ hA_ hne_ HX HB HR HR3
        go_wp2_with fail
        go_roundw
        case rel => exact ⟨k + 1, A4, c4, by omega, by go_num, rfl, Lib.hid ⟨HR_.out, HX_.out, HB_.out⟩⟩
        case measure => simp [intOf]; omega
      · obtain rfl : k = n := by omega
        have HRN := Lib.hid (show OwnU w_ (g1 + 1) A3 k c3 ((amI l).map (Value.int .u64)) by have h := HR.out; rw [List.take_of_length_le (by have := HI.out.2.2.1; omega)] at h; exact h)
        go_wp2_with fail
        go_meet
        case rel => exact ⟨A3, c3, rfl, Lib.hid ⟨HRN.out, HX.out, HB.out⟩⟩
  case rest =>
    obtain ⟨A3_, c3_, rfl, hI⟩ := hcut
    clear HX HB c0
    have HU := Lib.hid hI.out.1; have HX := Lib.hid hI.out.2.1; have HB := Lib.hid hI.out.2.2
    clear hI
    try clear w_
    rename World => w_
    have c1 := HX.out.blk.at_ HT1.out
    obtain ⟨gs, hgs⟩ : ∃ q, q = w_.heap.size := ⟨_, rfl⟩
    have HG1 := Lib.hid (show g1 + 1 ≤ gs ∧ w.heap.size ≤ gs by have h1 := HX.out.lt; have h2 := HB.out.size; omega)
    have HUL := Lib.hid (show ∀ q, A3_.map Addr.block = some q → q < gs from fun q hq => by rw [hgs]; exact own_lt HU.out q hq)
    have HGS := Lib.hid (show gs ≤ w_.heap.size by omega)
    clear hgs
    go_wp2_with fail
    go_loopw [3, 24] (fun s3 iv wr => ∃ k : Nat, ∃ A3 c3, k ≤ n2 ∧ iv = .int .i64 k ∧ s3 = .slice A3 k c3 ∧ Hid (OwnU wr gs A3 k c3 (((os.take k).map Outp.amount).map (Value.int .u64)) ∧ At wr g1 28 4 tv ∧ Below w.heap.size w wr ∧ OwnU wr (g1 + 1) A3_ n c3_ ((amI l).map (Value.int .u64)) ∧ gs ≤ wr.heap.size)) (fun _ iv _ => n2 - (intOf iv).toNat)
    case atStart => exact ⟨0, none, 0, by omega, rfl, rfl, Lib.hid ⟨World.ownsRow_nil _ _ _ _, HX.out, HB.out, HU.out, HGS.out⟩⟩
    case round =>
      obtain ⟨k, A3, c3, hk, rfl, rfl, hI⟩ := hrel
      clear HX HB c1 HU HGS
      have HR := Lib.hid hI.out.1; have HX := Lib.hid hI.out.2.1; have HB := Lib.hid hI.out.2.2.1; have HU := Lib.hid hI.out.2.2.2.1; have HGS := Lib.hid hI.out.2.2.2.2
      clear hI
      rename World => w_
      by_cases hlt : k < n2
      · have HII := Lib.hid (HO.out.grow HB.out)
        obtain ⟨b, off, p, rfl, hp, hok, hc⟩ := HII.out.at_ hlt
        have HC := Lib.hid hc
        have HPC := Lib.hid (outV_cl hok)
        have HP33 := Lib.hid (out_at hok)
        have HSN := Lib.hid (am_snoc Outp.amount hp)
        obtain ⟨pv, hpv⟩ : ∃ q, q = outV p := ⟨_, rfl⟩
        obtain ⟨am, ham⟩ : ∃ q, q = p.amount := ⟨_, rfl⟩
        rw [← hpv] at HC HPC
        rw [← hpv, ← ham] at HP33
        rw [← ham] at HSN
        have HSZ := Lib.hid (show SzG w_ gs from HGS.out)
        obtain ⟨xs, hxs⟩ : ∃ q, q = (((os.take k).map Outp.amount).map (Value.int .u64)) := ⟨_, rfl⟩
        rw [← hxs] at HR HSN
        clear hp hok hc hpv ham HII hxs
        go_wp2_with (first | (with_reducible refine wpl_loadm (o := ⟨some 27, _, _, _, _, _⟩) rfl rfl row_tout HC.out rfl HPC.out.len ?_) | (with_reducible refine wpl_alloc (o := ⟨some 7, _, _, _, _, _⟩) rfl rfl zero_tout ?_))
        intro w1_ hb1_ hbw1_ hsz1_
        have HB1_ := Lib.hid (at_mk hb1_ len_tout)
        have HBW1_ := Lib.hid hbw1_
        have HZ1_ := Lib.hid hsz1_
        clear hb1_ hbw1_ hsz1_
        go_wp2_with (first | (with_reducible refine wpl_storeb (o := ⟨none, .store _ _ _, _, _, _, _⟩) rfl rfl row_tout HB1_.out.blk rfl rfl HB1_.out.len HPC.out.len HPC.out.one ?_))
        intro w2_ hb2_ hg2_ hsz2_
        have hb_ := var_grow HBW1_.out HZ1_.out hg2_
        have HX_ := Lib.hid (at_mk hb2_ HPC.out.len)
        clear hb2_ hg2_ hsz2_ HB1_ HBW1_ HZ1_
        have HB_ := Lib.hid (HB.out.grow' hb_)
        clear HB
        have HB := HB_
        clear HB_
        have HX_ := Lib.hid (HX.out.grow hb_)
        clear HX
        have HX := HX_
        clear HX_
        have HR_ := Lib.hid (HR.out.grow hb_)
        clear HR
        have HR := HR_
        clear HR_
        have HU_ := Lib.hid (HU.out.grow hb_)
        clear HU
        have HU := HU_
        clear HU_
        have HSZ_ := Lib.hid (HSZ.out.grow hb_)
        clear HSZ
        have HSZ := HSZ_
        clear HSZ_
        generalize hg_ : w_.heap.size = g7 at HX_ ⊢
        clear hg_
        have HE := HX_
        clear hb_ HX_
        clear w1_
        try clear w_
        rename World => w_
        have c33 := HE.out.blk.at_ HP33.out
        have HGZ := Lib.hid (show gs ≤ w_.heap.size from HSZ.out)
        have HR3 := Lib.hid (show w_.ownsRow gs 26 1 (.slice A3 k c3) k xs from HR.out)
        go_wp2_with (first | (at_builtin; refine wpl_app1 rfl rfl el_us HR3.out rfl (m := 1) rfl ?_ ?_ ?_ ?_ ?_ ?_))
        · rfl
        · rfl
        · omega
        · omega
        · exact HGZ.out
        intro A4 c4 w4_ ho_ hg_ hA_
        have hne_ := own_from HR3.out
        have HX_ := Lib.hid (show At w4_ g1 28 4 tv from at_mk (HX.out.blk.grown hg_ (fun h => by have := hne_ _ h.symm; have := HG1.out; omega)) HX.out.len)
        have HB_ := Lib.hid (below_grown HB.out hg_ HB.out.size (fun x hx => by have := hne_ _ hx; have := HX_g.out; have := HG1.out; omega))
        have HR_ := Lib.hid (show OwnU w4_ gs A4 (k + 1) c4 ((((os.take (k + 1)).map Outp.amount)).map (Value.int .u64)) by rw [HSN.out]; exact ho_)
        have HU_ := Lib.hid (show OwnU w4_ (g1 + 1) A3_ n c3_ ((amI l).map (Value.int .u64)) from own_kept HU.out hg_ (fun q hq he => by have h1 := hne_ _ he.symm; have h2 := HUL.out q (by rw [hq]; rfl); omega))
        have HSZ_ := Lib.hid (show gs ≤ w4_.heap.size from Nat.le_trans HGZ.out hg_.size)
        clear ho_ hg_ hA_ hne_ HX HB HR HR3 HU
        go_wp2_with fail
        go_roundw
        case rel => exact ⟨k + 1, A4, c4, by omega, by go_num, rfl, Lib.hid ⟨HR_.out, HX_.out, HB_.out, HU_.out, HSZ_.out⟩⟩
        case measure => simp [intOf]; omega
      · obtain rfl : k = n2 := by omega
        have HRN := Lib.hid (show OwnU w_ gs A3 k c3 ((amO os).map (Value.int .u64)) by have h := HR.out; rw [List.take_of_length_le (by have := HO.out.2.2.1; omega)] at h; exact h)
        go_wp2_with fail
        go_ret2
        exact ⟨_, _, _, _, rfl, own_base HU.out (by have := HX_g.out; omega), own_base HRN.out (by have := HG1.out; omega), HB.out⟩
end Go.Proofs.Ytphmefhnffoafaa

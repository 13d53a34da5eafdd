/- Layer 5, the document's answer: a digest's bytes, a leaf, a node, the root. -/
import Derived.Test.YtphmefhnffoafaaDoorCertFormsT13
import Derived.Test.YtphmefhnffoafaaDoorCertFormsT14
set_option linter.unusedSimpArgs false
/- Layer 5, the document's answer: a digest's bytes, a leaf, a node, the root. -/
namespace Go.Proofs.YtphmefhnffoafaaDoor
open Go.RowKit Go.Shelf
set_option linter.unusedVariables false
end Go.Proofs.YtphmefhnffoafaaDoor
/- Contracts of the document's Id of a header, and of the leaves. -/
namespace Go.Proofs.YtphmefhnffoafaaDoor
open Go.RowKit Go.Shelf
set_option linter.unusedVariables false
def okL (x : Ent) (i : Int) : Bool := rightE x && decide (i ≤ 4611686018427387904)
theorem leavesB_yes {c : List UInt8} {x : Ent} {i : Int} (h : okL x i = true) : leavesB c x i = [c, putEB x, numB i.toNat] := by
  unfold okL at h; simp only [Bool.and_eq_true, decide_eq_true_eq] at h; unfold leavesB; rw [if_pos h]
theorem leavesB_no {c : List UInt8} {x : Ent} {i : Int} (h : okL x i = false) : leavesB c x i = [] := by
  unfold leavesB; rw [if_neg]; intro hh; unfold okL at h; rw [hh.1] at h; simp at h; omega
theorem parts3 {w : World} {g : Nat} {t : TypeId} {A1 A2 A3 : Option Addr} {n1 c1 n2 c2 n3 c3 : Nat} {b1 b2 b3 : List UInt8} (hb : Blk w g t [.slice A1 n1 c1, .slice A2 n2 c2, .slice A3 n3 c3]) (h1 : Sl w w.heap.size 1 A1 n1 (b1.map B)) (k1 : n1 ≤ c1) (h2 : Sl w w.heap.size 1 A2 n2 (b2.map B)) (k2 : n2 ≤ c2) (h3 : Sl w w.heap.size 1 A3 n3 (b3.map B)) (k3 : n3 ≤ c3) :
    ∃ ps, Parts w w.heap.size (some ⟨g, 0, none⟩) 3 ps ∧ ps.map Prod.snd = [b1, b2, b3] :=
  ⟨[(.slice A1 n1 c1, b1), (.slice A2 n2 c2, b2), (.slice A3 n3 c3, b3)], parts_blk hb rfl (by intro p hp; simp only [List.mem_cons, List.not_mem_nil, or_false] at hp; rcases hp with rfl | rfl | rfl; exact part_mk h1 k1; exact part_mk h2 k2; exact part_mk h3 k3), rfl⟩
/-- A list of lists of bytes that was handed back. -/
def LS (w : World) (A : Option Addr) (n c : Nat) (ls : List (List UInt8)) : Prop := ∃ ps, Parts w w.heap.size A n ps ∧ ps.map Prod.snd = ls ∧ n ≤ c
theorem LS.grow {w w2 : World} {A : Option Addr} {n c : Nat} {ls : List (List UInt8)} (h : LS w A n c ls) (k : Grow w w2) : LS w2 A n c ls := by obtain ⟨ps, h1, h2⟩ := h; exact ⟨ps, h1.grow k, h2⟩
theorem LS.nil (w : World) : LS w none 0 0 [] := ⟨[], ⟨Sl.nil, fun p hp => by cases hp⟩, rfl, Nat.le_refl _⟩
set_option maxRecDepth 100000 in
set_option maxHeartbeats 1000000 in
theorem leaves_any (A : Option Addr) (n c : Nat) (bs : List UInt8) (x : Ent) (i : Int) (w : World) (hs : Sl w w.heap.size 1 A n (bs.map B)) (hc : n ≤ c) (hn : n ≤ 1000000) (hx : x.ok) (hi : U64 i) :
    Calls Tryd.prog 16 #[.slice A n c, .agg (entV x).toArray, .int .u64 i] w fun e w' => ∃ A' n' c', e = .returned (.tuple #[.slice A' n' c', .bool (okL x i)]) ∧ LS w' A' n' c' (leavesB bs x i) ∧ n' = (leavesB bs x i).length ∧ Grow w w' := by
  have HP := Lib.hid (fun w => eput_any x w hx)
  have HL := Lib.hid (entV_length hx)
  have HS := Lib.hid hs
  have HPL := Lib.hid (fun h => putEB_len hx h)
  obtain ⟨iN, rfl⟩ := nat_of hi.1
  have hi2 := hi.2
  obtain ⟨r, hr⟩ : ∃ r, r = rightE x := ⟨_, rfl⟩
  have HRR := Lib.hid hr
  unfold eformB at HP
  rw [← hr] at HP
  clear hr hs
  obtain ⟨cs, hcs⟩ : ∃ cs, cs = entV x := ⟨_, rfl⟩
  rw [← hcs] at HP HL ⊢
  clear hcs hi
  have HB := Lib.hid (Below.refl w.heap.size w)
  go_enter Tryd.func16, Tryd.ntmps16
  obtain ⟨gh, hgh⟩ : ∃ gh, gh = w.heap.size := ⟨_, rfl⟩
  have HG := Lib.hid hgh
  go_wp2_with (first | (with_reducible refine wpl_box (o := ⟨some 4, _, _, _, _, _⟩) rfl rfl rfl ?_))
  intro w1 hb1 hbw1 hsz1
  rw [← hgh] at hb1 hbw1 hsz1 ⊢
  clear hgh
  have HH := Lib.hid hb1
  have hg1 : Grow w w1 := by rw [HG.out] at hbw1; exact hbw1
  have HB1 := Lib.hid (HB.out.grow' hg1)
  have HS1 := Lib.hid (HS.out.grow hg1)
  clear hb1 hbw1 hsz1 hg1 HB HS
  go_wp2_with (first | (with_reducible refine wpl_loadb (o := ⟨some 12, _, _, _, _, _⟩) rfl rfl row_entry HH.out rfl HL.out ?_))
  refine (HP.out _).mono ?_
  rintro e w_ ⟨A2, c2, rfl, hs2, hc2, hb_⟩
  have HS2 := Lib.hid hs2; have HC2 := Lib.hid hc2
  have HB := Lib.hid (HB1.out.grow' hb_)
  have HS := Lib.hid (HS1.out.grow hb_)
  clear hb_ HB1 HS1 hs2 hc2 HP HH
  by_cases hok : okL x iN = true
  · have HOK := Lib.hid hok
    have hr : r = true := by rw [HRR.out]; unfold okL at hok; simp only [Bool.and_eq_true] at hok; exact hok.1
    have hi62 : iN ≤ 4611686018427387904 := by unfold okL at hok; simp only [Bool.and_eq_true, decide_eq_true_eq] at hok; omega
    clear hok
    subst hr
    simp only [if_true]
    have d1 : decide ((4611686018427387904 : Int) < (iN : Int)) = false := by simp; omega
    have HS2x := Lib.hid (show Sl w_ w_.heap.size 1 A2 (putEB x).length ((putEB x).map B) from HS2.out)
    have HC2x := Lib.hid (show (putEB x).length ≤ c2 from HC2.out)
    have hE77 := HPL.out HRR.out.symm
    obtain ⟨ne, hne⟩ : ∃ k, k = (putEB x).length := ⟨_, rfl⟩
    rw [← hne] at HS2x HC2x hE77 ⊢
    clear HS2 HC2 hne
    go_wp2_with (first | (with_reducible refine wpl_alloc (o := ⟨some 10, _, _, _, _, _⟩) rfl rfl zero_pen ?_))
    intro w3 hb3 hbw3 hsz3
    obtain ⟨g, hg⟩ : ∃ g, g = w_.heap.size := ⟨_, rfl⟩
    rw [← hg] at hb3 hsz3 hbw3 ⊢
    have HPEN := Lib.hid (PenAt.new (K := fun k => k < g) hb3 (fun k hk => ⟨by omega, by omega⟩))
    have HGG := Lib.hid hg
    have HS3 := Lib.hid (show Sl w3 g 1 A n (bs.map B) by have h := HS.out; rw [← hg] at h; exact h.below hbw3)
    have HE3 := Lib.hid (show Sl w3 g 1 A2 ne ((putEB x).map B) by have h := HS2x.out; rw [← hg] at h; exact h.below hbw3)
    have HB3 := Lib.hid (show Grow w w3 from HB.out.grow' (by rw [hg] at hbw3; exact hbw3))
    have HGW := Lib.hid (show w.heap.size ≤ g by have := HB.out.size; omega)
    clear hb3 hbw3 hsz3 hg HS HS2x HB
    try clear w_
    go_wp2_with fail
    refine (num_any g iN _ [] _ HPEN.out (by simp) (by omega)).mono ?_
    rintro e w4 ⟨rfl, hp4, hk4⟩
    have HP4 := Lib.hid hp4
    have hbl := hk4.below (Bd := g) (fun k hk => hk)
    have HS4 := Lib.hid ((HS3.out.below hbl).more (Nat.le_of_lt hp4.lt))
    have HE4 := Lib.hid ((HE3.out.below hbl).more (Nat.le_of_lt hp4.lt))
    have HB4 := Lib.hid (show Grow w w4 from Below.trans (B := w.heap.size) HB3.out (hbl.mono HGW.out))
    clear hp4 hk4 hbl HS3 HE3 HB3 HPEN
    go_wp2_with fail
    refine (bclone_any A n c bs _ HS4.out hn).mono ?_
    rintro e w5 ⟨A5, c5, rfl, ho5, hc5, hb_⟩
    have HX5 := Lib.hid (Sl.of_own ho5)
    have HC5 := Lib.hid hc5
    have HP5 := Lib.hid (HP4.out.grow hb_)
    have HE5 := Lib.hid (HE4.out.grow hb_)
    have HB5 := Lib.hid (HB4.out.grow' hb_)
    clear ho5 hc5 hb_ HP4 HE4 HB4 HS4
    go_wp2_with fail
    refine (pbytes_any g _ ([] ++ numB iN) _ HP5.out (by rw [List.nil_append]; have := numB_le (n := iN) (by omega); omega)).mono ?_
    rintro e w6 ⟨A6, c6, rfl, ho6, hc6, hb_⟩
    rw [List.nil_append] at ho6 hc6 ⊢
    have HX6 := Lib.hid (Sl.of_own ho6)
    have HC6 := Lib.hid hc6
    have HX5_ := Lib.hid (HX5.out.grow hb_)
    have HE6 := Lib.hid (HE5.out.grow hb_)
    have HB6 := Lib.hid (HB5.out.grow' hb_)
    clear ho6 hc6 hb_ HP5 HE5 HB5 HX5
    go_wp2_with fail
    generalize hw_ : World.alloc w6 _ = w7
    obtain ⟨hX, hb, hsz⟩ := alloc_eq hw_
    have HP3 := Lib.hid (parts3 hX (HX5_.out.grow hb) HC5.out (HE6.out.grow hb) HC2x.out (HX6.out.grow hb) HC6.out)
    have HB7 := Lib.hid (HB6.out.grow' hb)
    clear hX hb hsz hw_
    go_ret2
    rw [leavesB_yes HOK.out, HOK.out, Int.toNat_natCast]
    obtain ⟨ps, hp1, hp2⟩ := HP3.out
    exact ⟨_, 3, 3, rfl, ⟨ps, hp1, hp2, Nat.le_refl _⟩, rfl, HB7.out⟩
  · have hok2 : okL x iN = false := by simpa using hok
    have HOK := Lib.hid hok2
    have HE := Lib.hid (show r = false ∨ decide ((4611686018427387904 : Int) < (iN : Int)) = true by
      cases r with
      | false => exact .inl rfl
      | true =>
        right
        unfold okL at hok2; rw [← HRR.out] at hok2; simp at hok2 ⊢; omega)
    clear hok hok2 HS2 HC2
    cases r with
    | false =>
      go_wp2_with fail
      go_ret2
      rw [leavesB_no HOK.out, HOK.out]
      exact ⟨none, 0, 0, rfl, LS.nil _, rfl, HB.out⟩
    | true =>
      have d1 : decide ((4611686018427387904 : Int) < (iN : Int)) = true := by rcases HE.out with h | h; cases h; exact h
      go_wp2_with fail
      go_ret2
      rw [leavesB_no HOK.out, HOK.out]
      exact ⟨none, 0, 0, rfl, LS.nil _, rfl, HB.out⟩
end Go.Proofs.YtphmefhnffoafaaDoor

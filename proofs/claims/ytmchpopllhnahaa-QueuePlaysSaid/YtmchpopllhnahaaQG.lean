/- The queue in memory; New, Len, Has, Copy. -/
import Derived.Test.YtmchpopllhnahaaQF
import Derived.Test.YtmchpopllhnahaaQC
namespace Go.Proofs.Ytmchpopllhnahaa
open Go.RowKit
set_option linter.unusedVariables false
def qM (g : Nat) (A : Option Addr) : List Nat := g :: (A.map Addr.block).toList
/-- The queue at g, its row; its blocks are M; the requests' bytes lie in no block of M or X. -/
structure QAt (w : World) (base g : Nat) (X : List Nat) (A : Option Addr) (n c : Nat) (L : List (Value × Wt)) : Prop where
  blk : Blk w g 58 [.slice A n c]
  own : OwnW w base A n c L
  big : n ≤ 32
  els : ∀ p ∈ L, BV w (qM g A ++ X) p.1 p.2.bs ∧ p.2.ok
  low : base ≤ g
def QSt (w : World) (base g : Nat) (M X : List Nat) (L : List (Value × Wt)) : Prop := ∃ A n c, M = qM g A ∧ QAt w base g X A n c L
section
variable {w w' : World} {base g : Nat} {M M' X X' : List Nat} {A : Option Addr} {n c : Nat} {L : List (Value × Wt)}
theorem qM_mem {b : Nat} : b ∈ qM g A ↔ b = g ∨ A.map Addr.block = some b := by unfold qM; simp
theorem QAt.lts (h : QAt w base g X A n c L) : ∀ b ∈ qM g A, base ≤ b ∧ b < w.heap.size := by
  intro b hb
  rcases qM_mem.1 hb with rfl | hb
  · exact ⟨h.low, h.blk.lt⟩
  · rcases h.own.form with ⟨e, _⟩ | ⟨g2, e, h1, h2⟩
    · rw [e] at hb; cases hb
    · rw [e] at hb; cases hb; exact ⟨h1, h2⟩
theorem QAt.ne (h : QAt w base g X A n c L) : A.map Addr.block ≠ some g := by
  rcases h.own.2 with ⟨hv, _⟩ | ⟨g2, cap, cur, hv, _, hh, _⟩
  · injection hv with hA; rw [hA]; simp
  · injection hv with hA
    rw [hA]
    intro e
    cases e
    have h1 := h.blk
    unfold Blk at h1
    rw [h1] at hh
    injection hh with hh
    injection hh with _ ht
    exact absurd ht (by decide)
/-- Other blocks turn: the queue stays. -/
theorem QAt.other (h : QAt w base g X A n c L) (hd : ∀ b ∈ qM g A, b ∉ X) (k : Step w X w' X') : QAt w' base g X' A n c L ∧ ∀ b ∈ qM g A, b ∉ X' := by
  have hlt := h.lts
  have hd' : ∀ b ∈ qM g A, b ∉ X' := by
    intro b hb hx
    rcases k.2 b hx with h1 | h1
    · exact hd b hb h1
    · have := (hlt b hb).2; omega
  refine ⟨⟨?_, ?_, h.big, fun p hp => ⟨?_, (h.els p hp).2⟩, h.low⟩, hd'⟩
  · have hg : g ∈ qM g A := qM_mem.2 (.inl rfl)
    exact (k.1.block g (hlt g hg).2 (hd g hg)).trans h.blk
  · refine own_of_block h.own fun b hb => ?_
    have hm : b ∈ qM g A := qM_mem.2 (.inr hb)
    exact k.1.block b (hlt b hm).2 (hd b hm)
  · have h1 := (h.els p hp).1
    have h2 : BV w' X' p.1 p.2.bs := (h1.sub (M' := X) (fun b hb => List.mem_append_right _ hb)).step k
    obtain ⟨A1, n1, c1, e1, e2, e3, e4⟩ := h1
    obtain ⟨A2, n2, c2, f1, f2, f3, f4⟩ := h2
    rw [e1] at f1
    cases f1
    exact ⟨A1, n1, c1, e1, e2, f3, fun h0 b hb hm => (List.mem_append.1 hm).elim (fun hm => e4 h0 b hb (List.mem_append_left _ hm)) (fun hm => f4 h0 b hb hm)⟩
theorem QAt.grow (h : QAt w base g X A n c L) (k : Grow w w') : QAt w' base g X A n c L :=
  ⟨h.blk.grow k, h.own.grow k, h.big, fun p hp => ⟨(h.els p hp).1.grow k, (h.els p hp).2⟩, h.low⟩
theorem QAt.len (h : QAt w base g X A n c L) : L.length = n := h.own.len
theorem QAt.xat (h : QAt w base g X A n c L) : XAt w [] A n L := ⟨h.len, Sl.of_own h.own, fun _ b _ hm => by simp at hm, fun p hp => ⟨(h.els p hp).1.sub (fun b hb => by cases hb), (h.els p hp).2⟩⟩
theorem QAt.cut (h : QAt w base g (X ++ X') A n c L) : QAt w base g X A n c L :=
  ⟨h.blk, h.own, h.big, fun p hp => ⟨(h.els p hp).1.sub (fun b hb => by rw [List.mem_append] at hb ⊢; exact hb.imp id (List.mem_append_left _)), (h.els p hp).2⟩, h.low⟩
end
theorem run_nil_w (w : World) (a : Option Addr) (n c n' c' : Nat) : (binOp .eql 44 (.slice a n c) (.slice none n' c')).run Try.prog w = .ok (.bool a.isNone) w := Lib.run_eql_slice_nil w _ _ a n c n' c' Try.underlying44
set_option maxHeartbeats 1000000 in
theorem qcloneL_any {w : World} {base n c : Nat} {A : Option Addr} {L : List (Value × Wt)} {M : List Nat} (h : OwnW w base A n c L) (hM : ∀ p ∈ L, BV w M p.1 p.2.bs ∧ p.2.ok) (hn : n ≤ 1000) :
    Calls Try.prog 44 #[.slice A n c] w fun e w' => ∃ A' c', e = .returned (.slice A' n c') ∧ OwnW w' w.heap.size A' n c' L ∧ Grow w w' := by
  have HS := Lib.hid (Sl.of_own h)
  have HONE := Lib.hid (OwnW.one hM)
  have qT := run_nil_w
  rcases h.form with ⟨rfl, rfl, rfl⟩ | ⟨g, rfl, _, _⟩
  · have HE := Lib.hid (show L = [] from List.eq_nil_of_length_eq_zero h.len)
    clear h hM
    go_enter Try.func44, Try.ntmps44
    go_wp2
    go_ret
    exact ⟨none, 0, rfl, by rw [HE.out]; exact World.ownsRow_nil _ _ _ _, Grow.refl _⟩
  · have HN0 := Lib.hid (World.ownsRow_lit (base := w.heap.size) (e := 29) (size := 4) w #[] 0 (Nat.le_refl _) (by simp [maxLen]) rfl)
    have HSA := Lib.hid (HS.out.alloc (Nat.le_refl _) (.cells #[] 29))
    clear h hM
    obtain ⟨xs, hxs⟩ : ∃ q, q = flat L := ⟨_, rfl⟩
    have HXS := Lib.hid hxs
    rw [← hxs] at HONE HSA
    clear hxs HS
    go_enter Try.func44, Try.ntmps44
    go_wp2_with (at_builtin; refine wpl_apps rfl rfl el_wait HN0.out rfl HSA.out rfl HONE.out (by omega) (by omega) (by simp) ?_)
    intro A4 c4 w4 ho hg hA
    have HO := Lib.hid (show OwnW w4 w.heap.size A4 n c4 L by unfold OwnW; rw [← HXS.out]; simpa using ho)
    have HB := Lib.hid (show Grow w w4 from ((Below.refl w.heap.size w).alloc (Nat.le_refl _) (.cells #[] 29)).grown hg (by simp) (by intro k hk; cases hk; exact Nat.le_refl _))
    clear ho hg hA
    try simp only [Nat.zero_add]
    go_wp2_with fail
    go_ret
    exact ⟨A4, c4, rfl, HO.out, HB.out⟩
theorem qnew_any {w : World} {base : Nat} (hb : base ≤ w.heap.size) :
    Calls Try.prog 8 #[] w fun e w' => ∃ g, e = .returned (.pointer (some ⟨g, 0, none⟩)) ∧ w.heap.size ≤ g ∧ QAt w' base g [] none 0 0 [] ∧ Grow w w' := by
  have HB := Lib.hid hb
  clear hb
  go_enter Try.func8, Try.ntmps8
  go_wp2_with fail
  go_ret
  exact ⟨w.heap.size, rfl, Nat.le_refl _, ⟨heap_alloc_new _ _, World.ownsRow_nil _ _ _ _, by omega, (fun p hp => by cases hp), HB.out⟩, (Below.refl _ _).alloc (Nat.le_refl _) _⟩
theorem qlen_any {w : World} {base g n c : Nat} {X : List Nat} {A : Option Addr} {L : List (Value × Wt)} (h : QAt w base g X A n c L) :
    Calls Try.prog 14 #[.pointer (some ⟨g, 0, none⟩)] w fun e w' => e = .returned (.int .i64 (n : Int)) ∧ w = w' := by
  have c0 := h.blk.at_ (i := 0) rfl
  clear h
  go_enter Try.func14, Try.ntmps14
  go_wp2_with fail
  go_ret
  exact ⟨rfl, rfl⟩
theorem qhas_any {w : World} {base g n c : Nat} {X : List Nat} {A : Option Addr} {L : List (Value × Wt)} {cc nn : Int} (h : QAt w base g X A n c L) :
    Calls Try.prog 21 #[.pointer (some ⟨g, 0, none⟩), .int .i64 cc, .int .i64 nn] w fun e w' => e = .returned (.bool ((L.map Prod.snd).any (isHas cc nn))) ∧ Grow w w' := by
  have HQ := Lib.hid h
  have HN := Lib.hid (show n ≤ 1000000 by have := h.big; omega)
  obtain ⟨q, hq⟩ : ∃ q, q = (L.map Prod.snd).any (isHas cc nn) := ⟨_, rfl⟩
  have HC := Lib.hid (fun w (h : XAt w [] A n L) g1 g2 h1 h2 => containsHas_any (c := c) (g1 := g1) (g2 := g2) (cc := cc) (nn := nn) h HN.out h1 h2)
  rw [← hq] at HC ⊢
  obtain ⟨w_, hw⟩ : ∃ x, x = w := ⟨_, rfl⟩
  have HB := Lib.hid (show Below w.heap.size w w_ by rw [hw]; exact Below.refl _ _)
  suffices H : Calls Try.prog 21 #[.pointer (some ⟨g, 0, none⟩), .int .i64 cc, .int .i64 nn] w_ fun e w' => e = .returned (.bool q) ∧ Grow w w' by rw [hw] at H; exact H
  clear hw h hq
  go_enter Try.func21, Try.ntmps21
  have e1 : ((w_.alloc (.cells #[.int .i64 cc] 3)).alloc (.cells #[.int .i64 nn] 3)).cell? ⟨g, 0, none⟩ = some (.slice A n c) := (((HQ.out.grow HB.out).blk.alloc _).alloc _).at_ (i := 0) rfl
  go_wp2_with fail
  obtain ⟨h1_, b1_, s1_⟩ := alloc_new w_ #[.int .i64 cc] 3
  obtain ⟨h2_, b2_, s2_⟩ := alloc_new (w_.alloc (.cells #[.int .i64 cc] 3)) #[.int .i64 nn] 3
  rw [s1_] at h2_
  have H1 := Lib.hid (h1_.grow b2_); have H2 := Lib.hid h2_
  have HB2 := Lib.hid ((HB.out.grow' b1_).grow' b2_)
  have HX := Lib.hid ((HQ.out.grow HB2.out).xat)
  clear h1_ b1_ s1_ h2_ b2_ s2_ HB HQ e1
  refine (HC.out _ HX.out _ _ H1.out H2.out).mono ?_
  rintro e w3_ ⟨rfl, hb_⟩
  have HB3 := Lib.hid (HB2.out.grow' hb_)
  clear hb_
  go_wp2_with fail
  go_ret
  exact ⟨rfl, HB3.out⟩
theorem qcopy_any {w : World} {base base' g n c : Nat} {A : Option Addr} {L : List (Value × Wt)} (h : QAt w base g [] A n c L) (hb' : base' ≤ w.heap.size) :
    Calls Try.prog 25 #[.pointer (some ⟨g, 0, none⟩)] w fun e w' => ∃ g' A' c', e = .returned (.pointer (some ⟨g', 0, none⟩)) ∧ QAt w' base' g' (qM g A) A' n c' L ∧ (∀ b ∈ qM g' A', w.heap.size ≤ b) ∧ Grow w w' := by
  have HQ := Lib.hid h
  have HC := Lib.hid (qcloneL_any h.own h.els (by have := h.big; omega))
  have c0 := h.blk.at_ (i := 0) rfl
  have HB' := Lib.hid hb'
  clear h hb'
  go_enter Try.func25, Try.ntmps25
  go_wp2_with fail
  refine HC.out.mono ?_
  rintro e w1 ⟨A', c', rfl, ho, hb⟩
  have HO := Lib.hid ho; have HB := Lib.hid hb
  clear ho hb c0
  go_wp2_with fail
  generalize hw_ : World.alloc w1 _ = w2_
  obtain ⟨hX_, hb_, hs_⟩ := alloc_eq hw_
  have HX := Lib.hid hX_; have HB2 := Lib.hid (HB.out.grow' hb_); have HO2 := Lib.hid (HO.out.grow hb_); have HS := Lib.hid (show w.heap.size ≤ w1.heap.size from HB.out.size)
  clear hX_ hb_ hs_ hw_
  go_ret
  have hM : ∀ b ∈ qM w1.heap.size A', w.heap.size ≤ b := by
    intro b hb
    rcases qM_mem.1 hb with rfl | hb
    · exact HS.out
    · exact own_from HO2.out b hb
  refine ⟨w1.heap.size, A', c', rfl, ⟨HX.out, own_base HO2.out HB'.out, HQ.out.big, fun p hp => ⟨?_, (HQ.out.els p hp).2⟩, Nat.le_trans HB'.out HS.out⟩, hM, HB2.out⟩
  obtain ⟨h1, h2⟩ := HQ.out.els p hp
  obtain ⟨A1, n1, c1, e1, e2, e3, e4⟩ := h1.grow HB2.out
  refine ⟨A1, n1, c1, e1, e2, e3, fun h0 b hb hm => ?_⟩
  rcases List.mem_append.1 hm with hm | hm
  · have h3 := hM b hm
    obtain ⟨A2, n2, c2, f1, f2, f3, _⟩ := h1
    rw [e1] at f1
    cases f1
    obtain ⟨b2, off, e5, hlt, _⟩ := f3.2 h0
    rw [e5] at hb
    cases hb
    exact Nat.lt_irrefl _ (Nat.lt_of_lt_of_le hlt h3)
  · exact e4 h0 b hb (by simpa using hm)
end Go.Proofs.Ytmchpopllhnahaa

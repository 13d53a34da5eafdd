/- Marks' keys as a sort takes them: the contract of marks.compare, and that its order is one. -/
import Derived.Test.YtolbbhbfbpiljaaSrtB
import Derived.Test.YtolbbhbfbpiljaaMarkB
namespace Go.Proofs.Ytolbbhbfbpiljaa
open Go.RowKit Go.Sort
set_option linter.unusedVariables false
def cmpK2 (p q : MKey) : Int := if cmpI p.1 q.1 = 0 then Lib.compareBytes p.2 q.2 else cmpI p.1 q.1
theorem Blk.mkSl {w : World} {g : Nat} {t : TypeId} {p : MKey} (h : Blk w g t (mkV p)) (hl : p.2.length = 32) : Sl w w.heap.size 1 (some ⟨g, 1, none⟩) 32 (p.2.map B) :=
  ⟨by simp [hl], fun _ => ⟨g, 1, rfl, h.lt, fun j u hu => by
    refine h.at_ ?_
    unfold mkV
    rw [Nat.add_comm 1 j, List.getElem?_cons_succ]; exact hu⟩⟩
set_option maxRecDepth 100000 in
theorem mcmpg_any (p q : MKey) (w : World) (hp : p.2.length = 32) (hq : q.2.length = 32) :
    Calls Try.prog 84 #[.agg (mkV p).toArray, .agg (mkV q).toArray] w fun e w' => e = .returned (.int .i64 (cmpK2 p q)) ∧ Gr w w' := by
  obtain ⟨xs, hxs⟩ : ∃ xs, xs = mkV p := ⟨_, rfl⟩
  obtain ⟨ys, hys⟩ : ∃ ys, ys = mkV q := ⟨_, rfl⟩
  obtain ⟨z, hz⟩ : ∃ z, z = cmpK2 p q := ⟨_, rfl⟩
  rw [← hxs, ← hys, ← hz]
  have HZ := Lib.hid hz; clear hz
  have HX := Lib.hid hxs; have HY := Lib.hid hys
  have HP := Lib.hid hp; have HQ := Lib.hid hq
  clear hxs hys hp hq
  go_enter Try.func84, Try.ntmps84
  go_wp2_with (first | (with_reducible refine wpl_boxd (o := ⟨some 2, _, _, _, _, _⟩) rfl rfl rfl ?_))
  intro w1 hb1 hbw1 hsz1 hdw1
  generalize hgd : w.heap.size = g at *
  go_wp2_with (first | (with_reducible refine wpl_boxd (o := ⟨some 3, _, _, _, _, _⟩) rfl rfl rfl ?_))
  intro w2 hb2 hbw2 hsz2 hdw2
  try rw [hsz1] at hb2 hsz2 ⊢
  have H2 := Lib.hid hb2
  have H1 := Lib.hid (hb1.below hbw2 (by omega))
  have HBW := Lib.hid (hbw1.trans (hbw2.mono (by omega)))
  have HSZ := Lib.hid (show g ≤ w2.heap.size by omega)
  have HDW := Lib.hid (show w.drawn ≤ w2.drawn by omega)
  clear hdw1 hdw2
  clear hb1 hb2 hbw1 hbw2 hsz1 hsz2
  generalize hg2 : g + 1 = g2 at *
  have c1 : w2.cell? ⟨g, 0, none⟩ = some (.int .i64 p.1) := H1.out.at_ (by rw [HX.out]; rfl)
  have c2 : w2.cell? ⟨g2, 0, none⟩ = some (.int .i64 q.1) := H2.out.at_ (by rw [HY.out]; rfl)
  have s1 := Lib.hid (Blk.mkSl (p := p) (by rw [← HX.out]; exact H1.out) HP.out)
  have s2 := Lib.hid (Blk.mkSl (p := q) (by rw [← HY.out]; exact H2.out) HQ.out)
  have C1 := Lib.hid c1; have C2 := Lib.hid c2
  have HG := Lib.hid hgd
  clear c1 c2 hgd hg2
  repeat' (first | (with_reducible refine wp_tail (id := 1) 10 (by kernel_rfl) (by kernel_rfl) ?_) | go_values | go_skip | go_guarded | go_step | go_upon | go_back)
  intro w3 hd3
  simp only [List.take_succ_cons, List.take_zero, List.drop_succ_cons, List.drop_zero]
  have c1 := (hd3.cell _).trans C1.out
  have c2 := (hd3.cell _).trans C2.out
  have hbc := bcmp_any _ _ 32 32 32 32 p.2 q.2 w3 (hd3.sl s1.out) (hd3.sl s2.out)
  have hcc := cmpi_any p.1 q.1 w3
  have hoo := fun w => or_two (cmpI p.1 q.1) (Lib.compareBytes p.2 q.2) w
  rw [show (if cmpI p.1 q.1 = 0 then Lib.compareBytes p.2 q.2 else cmpI p.1 q.1) = z from HZ.out.symm] at hoo
  generalize cmpI p.1 q.1 = y at *
  generalize Lib.compareBytes p.2 q.2 = x at *
  have HBC := Lib.hid hbc; have HCC := Lib.hid hcc; have HOO := Lib.hid hoo
  have HB3 := Lib.hid (hd3.below HBW.out)
  have HSZ3 := Lib.hid (show g ≤ w3.heap.size by rw [hd3.size]; exact HSZ.out)
  have HDW3 := Lib.hid (show w.drawn ≤ w3.drawn from Nat.le_trans HDW.out hd3.drawn)
  clear hbc hcc hd3 hoo
  repeat still_step
  still_call (HCC.out.mono fun _ _ ⟨he, hw⟩ => ⟨he, hw.symm⟩)
  repeat still_step
  still_call (HBC.out.mono fun _ _ ⟨he, hw⟩ => ⟨he, hw.symm⟩)
  repeat still_step
  try refine wpStill_nil ?_
  clear c1 c2
  go_wp2_with fail
  refine (HOO.out _).mono ?_
  rintro e w' ⟨rfl, rfl⟩
  go_wp2_with fail
  go_ret
  exact ⟨rfl, Gr.of (by rw [HG.out]; exact HB3.out.alloc HSZ3.out _) HDW3.out⟩
theorem cmpK2_neg (p q : MKey) : cmpK2 q p = - cmpK2 p q := by
  unfold cmpK2
  rw [cb_neg p.2 q.2, cmpI_neg p.1 q.1]
  by_cases h : cmpI p.1 q.1 = 0
  · rw [if_pos h, if_pos (by omega)]
  · rw [if_neg h, if_neg (by omega)]
theorem cmpK2_range (p q : MKey) : -1 ≤ cmpK2 p q ∧ cmpK2 p q ≤ 1 := by
  unfold cmpK2
  have := cb_range p.2 q.2
  have := cmpI_range p.1 q.1
  split <;> omega
theorem cmpI_self (a : Int) : cmpI a a = 0 := by unfold cmpI; simp
theorem cmpK2_zero (p q : MKey) : cmpK2 p q = 0 ↔ p = q := by
  unfold cmpK2
  constructor
  · intro h
    by_cases h1 : cmpI p.1 q.1 = 0
    · rw [if_pos h1] at h
      exact Prod.ext (cmpI_zero _ _ h1) (cb_zero _ _ h)
    · rw [if_neg h1] at h; exact absurd h h1
  · intro h
    subst h
    rw [cmpI_self, if_pos rfl, cb_self]
theorem cmpK2_trans (p q r : MKey) (h1 : cmpK2 p q ≤ 0) (h2 : cmpK2 q r ≤ 0) : cmpK2 p r ≤ 0 := by
  unfold cmpK2 at *
  by_cases g1 : cmpI p.1 q.1 = 0
  · rw [if_pos g1] at h1
    have e := cmpI_zero _ _ g1
    rw [← e] at h2
    by_cases g2 : cmpI p.1 r.1 = 0
    · rw [if_pos g2] at h2 ⊢
      exact cb_trans _ _ _ h1 h2
    · rw [if_neg g2] at h2 ⊢; exact h2
  · rw [if_neg g1] at h1
    by_cases g2 : cmpI q.1 r.1 = 0
    · have e := cmpI_zero _ _ g2
      rw [← e, if_neg g1]; exact h1
    · rw [if_neg g2] at h2
      have h3 := cmpI_trans _ _ _ h1 h2
      by_cases g3 : cmpI p.1 r.1 = 0
      · exfalso
        have e := cmpI_zero _ _ g3
        rw [← e, cmpI_neg p.1 q.1] at h2
        omega
      · rw [if_neg g3]; exact h3
/-- A key. -/
abbrev KeyS := { p : MKey // MKOK p }
instance : Inhabited KeyS := ⟨⟨(0, List.replicate 32 0), by simp [MKOK, I64]⟩⟩
def encKey (p : KeyS) : List Value := mkV p.1
theorem encKey_len (p : KeyS) : (encKey p).length = 33 := mkV_length p.2
theorem encKey_one (p : KeyS) : ∀ v ∈ encKey p, v.oneCell' = true := by
  intro v hv
  unfold encKey mkV at hv
  rcases List.mem_cons.1 hv with hv | hv
  · rw [hv]; rfl
  · obtain ⟨x, _, rfl⟩ := List.mem_map.1 hv; rfl
theorem encKey_inj {p q : KeyS} (h : encKey p = encKey q) : p = q := Subtype.ext (mkA_inj (by unfold mkA; unfold encKey at h; rw [h]))
def cfKey (p q : KeyS) : Int := cmpK2 p.1 q.1
theorem lt_key (p q : KeyS) : ltOf cfKey p q = true ↔ cmpK2 p.1 q.1 = -1 := by
  have := cmpK2_range p.1 q.1
  unfold ltOf cfKey
  rw [decide_eq_true_eq]; omega
theorem nlt_key (p q : KeyS) : ltOf cfKey p q = false ↔ cmpK2 q.1 p.1 ≤ 0 := by
  have h1 := cmpK2_range p.1 q.1
  have h2 := cmpK2_neg p.1 q.1
  unfold ltOf cfKey
  rw [decide_eq_false_iff_not]; omega
theorem swo_key : SWO (ltOf cfKey) where
  irrefl p := by rw [nlt_key]; have := (cmpK2_zero p.1 p.1).2 rfl; omega
  trans x y z h1 h2 := by
    rw [lt_key] at *
    have a1 := cmpK2_trans x.1 y.1 z.1 (by omega) (by omega)
    have a2 := cmpK2_range x.1 z.1
    have a3 : cmpK2 x.1 z.1 ≠ 0 := fun e => by
      have e2 := (cmpK2_zero x.1 z.1).1 e
      rw [← e2] at h2
      have := cmpK2_neg x.1 y.1
      omega
    omega
  ntrans x y z h1 h2 := by
    rw [nlt_key] at *
    exact cmpK2_trans z.1 y.1 x.1 h2 h1
theorem tot_key (x y : KeyS) (h1 : ltOf cfKey x y = false) (h2 : ltOf cfKey y x = false) : x = y := by
  rw [nlt_key] at h1 h2
  have h3 := cmpK2_neg x.1 y.1
  exact Subtype.ext ((cmpK2_zero x.1 y.1).1 (by omega))
theorem lays_key_cmp (blk off size : Nat) (w : World) : CmpLays Try.prog 84 #[] encKey 33 cfKey blk off size w :=
  fun _ _ _ _ x y => mcmpg_any x.1 y.1 _ x.2.2 y.2.2
theorem row_mkey : RowT Try.prog 112 33 := ⟨_, Try.underlying112, by kernel_rfl, by kernel_rfl⟩
theorem info_key : (Try.prog.info? 112).map (fun i => (i.zero, i.size, i.bytes)) = some (some (.agg (encKey default).toArray), 33, 40) := by kernel_rfl
theorem el_key : ElemT Try.prog 115 112 33 40 := elemT Try.underlying115 info_key rfl (by omega)
/-- Sorted. -/
def sortK (l : List KeyS) : List KeyS := l.mergeSort fun x y => !(ltOf cfKey) y x
theorem sortK_len (l : List KeyS) : (sortK l).length = l.length := List.length_mergeSort ..
theorem sortK_perm (l : List KeyS) : (sortK l).Perm l := List.mergeSort_perm ..
end Go.Proofs.Ytolbbhbfbpiljaa

/- The document's coins: Put, Take. Printed by mkrlc.py. -/
import Derived.Test.YtolbbhbfbpiljaaLocksPlayB11
import Derived.Test.YtolbbhbfbpiljaaLocksPlayB3
import Derived.Deep.CutRange
import Derived.Test.YtolbbhbfbpiljaaLocksPlayB2
import Derived.Test.YtolbbhbfbpiljaaRows
import Derived.Deep.QuietTactic
import Derived.BigQuiet
import Derived.StillTailTactics
import Derived.RangeFuncNested
import Derived.RangeFuncBound
import Derived.RangeFuncCalls
import Derived.RangeFuncLeaves
import Derived.Shelf.Abstract
import Derived.Shelf.RegionOpen
import Derived.OwnWalkIn
import Derived.TacticsInMore
import Derived.LoopNIn
import Derived.LoopIn
import Derived.Laws.CopyOwn
import Derived.Deep.RegionWith
import Derived.Deep.MidRow
import Derived.Deep.CutBlock
set_option linter.unusedSimpArgs false
/- The document's coins: Put, Take. Printed by mkrlc.py. -/
namespace Go.Proofs.Ytolbbhbfbpiljaa
open Go.RowKit
set_option linter.unusedVariables false
theorem info_at21 : (Try.prog.info? 85).map (fun i => (i.zero, i.size, i.bytes)) = some (some (.agg (encAtK noAtK).toArray), 98, 112) := by kernel_rfl
theorem el_at21 : ElemT Try.prog 81 85 98 112 := elemT Try.underlying81 info_at21 rfl (by omega)
theorem encAtK_cl {e : PtK × LockV} (h : AtOKK e) : Cl 98 (encAtK e) := ⟨encAtK_len h, encAtK_one e⟩
theorem len_atk : (encAtK noAtK).length = 98 := encAtK_len noAtK_ok
theorem zero_atk : (Try.prog.info? 85).map (·.zero) = some (some (.agg (encAtK noAtK).toArray)) := zero_atK
theorem row_atk : RowT Try.prog 85 98 := row_at21
theorem encAtK_ix {e : PtK × LockV} (h : AtOKK e) : (encAtK e)[32]? = some (.int .i64 e.1.2) := by have := encAtK_pt h (ptV_ix h.1.1); simpa using this
/-- A row of the call's own of outputs with coins. -/
def OwnK (w : World) (base : Nat) (A : Option Addr) (n c : Nat) (Y : LocksL) : Prop := w.ownsRow base 85 98 (.slice A n c) n (Y.flatMap encAtK) ∧ ∀ e ∈ Y, AtOKK e
theorem fmK_len : ∀ {Y : LocksL}, (∀ e ∈ Y, AtOKK e) → (Y.flatMap encAtK).length = Y.length * 98
  | [], _ => rfl
  | e :: Y, h => by rw [List.flatMap_cons, List.length_append, encAtK_len (h e (List.mem_cons_self ..)), fmK_len (fun x hx => h x (List.mem_cons_of_mem _ hx)), List.length_cons]; omega
theorem OwnK.len {w : World} {base n c : Nat} {A : Option Addr} {Y : LocksL} (h : OwnK w base A n c Y) : Y.length = n := by have h1 := h.1.1; rw [fmK_len h.2] at h1; omega
theorem OwnK.row {w : World} {base n c : Nat} {A : Option Addr} {Y : LocksL} (h : OwnK w base A n c Y) : RowK w A n Y := ⟨Sl.of_own h.1, h.2, h.len⟩
theorem OwnK.nil (w : World) (base : Nat) : OwnK w base none 0 0 [] := ⟨⟨by simp, .inl ⟨rfl, rfl⟩⟩, by simp⟩
theorem OwnK.grow {w w' : World} {base n c : Nat} {A : Option Addr} {Y : LocksL} (h : OwnK w base A n c Y) (k : Grow w w') : OwnK w' base A n c Y := ⟨own_below h.1 k, h.2⟩
theorem OwnK.snoc {w' : World} {base n c' : Nat} {A' : Option Addr} {Y : LocksL} {e : PtK × LockV} (ho : w'.ownsRow base 85 98 (.slice A' (n + 1) c') (n + 1) (Y.flatMap encAtK ++ encAtK e)) (hy : ∀ e ∈ Y, AtOKK e) (he : AtOKK e) : OwnK w' base A' (n + 1) c' (Y ++ [e]) :=
  ⟨by rw [List.flatMap_append, List.flatMap_cons, List.flatMap_nil, List.append_nil]; exact ho, fun x hx => by
    rcases List.mem_append.1 hx with hx | hx
    · exact hy x hx
    · rw [List.mem_singleton] at hx; subst hx; exact he⟩
theorem RowK.grow {w w' : World} {A : Option Addr} {n : Nat} {l : LocksL} (h : RowK w A n l) (hb : Below w.heap.size w w') : RowK w' A n l := h.call hb
theorem insK_at (X : LocksL) (p : PtK) (c : LockV) (k : Nat) {e : PtK × LockV} (he : X[k]? = some e) :
    ((∃ x ∈ X.take k, cmpP p x.1 < 0) → insK p c (X.take (k + 1)) = insK p c (X.take k) ++ [e] ∧ ∃ x ∈ X.take (k + 1), cmpP p x.1 < 0) ∧
    ((∀ x ∈ X.take k, ¬ cmpP p x.1 < 0) → cmpP p e.1 < 0 → insK p c (X.take (k + 1)) = (X.take k ++ [(p, c)]) ++ [e] ∧ ∃ x ∈ X.take (k + 1), cmpP p x.1 < 0) ∧
    ((∀ x ∈ X.take k, ¬ cmpP p x.1 < 0) → ¬ cmpP p e.1 < 0 → X.take (k + 1) = X.take k ++ [e] ∧ ∀ x ∈ X.take (k + 1), ¬ cmpP p x.1 < 0) := by
  have h1 : X.take (k + 1) = X.take k ++ [e] := by rw [List.take_add_one, he]; rfl
  rw [h1]
  refine ⟨fun h => ⟨insK_done h, ?_⟩, fun h h2 => ⟨?_, e, by simp, h2⟩, fun h h2 => ⟨rfl, fun x hx => ?_⟩⟩
  · obtain ⟨x, hx, hx2⟩ := h
    exact ⟨x, List.mem_append_left _ hx, hx2⟩
  · rw [insK_not h]
    unfold insK
    rw [if_pos h2]; simp
  · rcases List.mem_append.1 hx with hx | hx
    · exact h x hx
    · rw [List.mem_singleton] at hx; subst hx; exact h2
theorem insK_end {X : LocksL} {p : PtK} (c : LockV) (h : ∀ x ∈ X, ¬ cmpP p x.1 < 0) : insK p c X = X ++ [(p, c)] := by
  have := insK_not (c := c) (Z := []) h
  rw [List.append_nil] at this
  rw [this]; rfl
theorem rputK_ok {X : LocksL} {p : PtK} {c : LockV} (h1 : ¬ (p.2 < 0 ∨ 16 ≤ p.2 ∨ c.1.2 = 0 ∨ 4611686018427387904 < c.1.2)) (h2 : (lookL X p).isSome = false) (h3 : ¬ 64 ≤ X.length) (h4 : ¬ 4611686018427387904 - c.1.2 < amtK X) : rputK X p c = (insK p c X, 0) := by
  unfold rputK; rw [if_neg h1, h2, if_neg (by simp), if_neg h3, if_neg h4]
/-- What Put of the document hands back. -/
def PutR21 (w0 : World) (rs : LocksL × Int) (e : Ending) (w' : World) : Prop := ∃ A' n' c', e = .returned (.tuple #[.slice A' n' c', .int .i64 rs.2]) ∧ RowK w' A' n' rs.1 ∧ Below w0.heap.size w0 w'

set_option maxRecDepth 100000 in
set_option maxHeartbeats 4000000 in
theorem rput21_any {A : Option Addr} {n c : Nat} {l : LocksL} (p : PtK) (v : LockV) (w : World) (h : RowK w A n l) (hp : PtOK p) (hv : LockOK v) (hn : n ≤ 64) (hs : amtK l ≤ 4611686018427387904) :
    Calls Try.prog 37 #[.slice A n c, .agg (encAtK (p, v)).toArray] w (PutR21 w (rputK l p v)) := by
  have HH := Lib.hid h; have HP0 := Lib.hid hp; have HV0 := Lib.hid hv
  have HPC := Lib.hid (ptV_cl hp)
  have HIX := Lib.hid (encAtK_ix (e := (p, v)) ⟨hp, hv⟩); have HAM := Lib.hid (encAtK_amt (e := (p, v)) ⟨hp, hv⟩)
  have HYP := Lib.hid (fun j u (hu : (ptV p)[j]? = some u) => encAtK_pt (e := (p, v)) ⟨hp, hv⟩ hu)
  have HGET := Lib.hid (fun w' (h' : RowK w' A n l) => rget21_any (c := c) p w' h' hp (by omega))
  have HSUM := Lib.hid (show ∀ w', RowK w' A n l → Calls Try.prog 68 #[.slice A n c] w' fun e w'' => e = .returned (.int .u64 (amtK l)) ∧ Below w'.heap.size w' w'' from fun w' h' => (rsum21_any w' h' (by omega) (by omega)).mono fun e w'' ⟨he, hw⟩ => ⟨he, by rw [hw]; exact Below.refl _ _⟩)
  have HYC := Lib.hid (encAtK_cl (e := (p, v)) ⟨hp, hv⟩)
  have HCMP := Lib.hid (fun (e : PtK × LockV) (he : AtOKK e) w' => rccmp_any p e.1 w' hp.1 he.1.1)
  have HDC := Lib.hid (encAtK_cl (getK_ok hp h.2.1))
  have HNN := Lib.hid (amtK_nn h.2.1)
  have hl0 := h.2.2
  unfold ptA at HGET
  obtain ⟨rs, hrs⟩ : ∃ q, q = rputK l p v := ⟨_, rfl⟩
  have HRS := Lib.hid hrs
  rw [← hrs]
  obtain ⟨th, hth⟩ : ∃ q, q = (lookL l p).isSome := ⟨_, rfl⟩
  have HTH := Lib.hid hth
  rw [← hth] at HGET
  obtain ⟨ds, hds⟩ : ∃ q, q = encAtK (getK l p) := ⟨_, rfl⟩
  rw [← hds] at HGET HDC
  obtain ⟨su, hsu⟩ : ∃ q, q = amtK l := ⟨_, rfl⟩
  have HSU := Lib.hid hsu
  rw [← hsu] at HSUM HNN hs
  obtain ⟨ix, hix⟩ : ∃ q, q = p.2 := ⟨_, rfl⟩
  have HIXE := Lib.hid hix
  rw [← hix] at HIX
  obtain ⟨am, ham⟩ : ∃ q, q = v.1.2 := ⟨_, rfl⟩
  have HAME := Lib.hid ham
  rw [← ham] at HAM
  have HAMB := Lib.hid (show 0 ≤ am ∧ am ≤ 18446744073709551615 by rw [ham]; exact hv.1.2)
  obtain ⟨xs, hxs⟩ : ∃ q, q = ptV p := ⟨_, rfl⟩
  obtain ⟨ys, hys⟩ : ∃ q, q = encAtK (p, v) := ⟨_, rfl⟩
  have HYE := Lib.hid hys
  rw [← hxs] at HPC HGET HCMP HYP
  rw [← hys] at HYC HIX HAM HYP ⊢
  obtain ⟨w_, hw⟩ : ∃ x, x = w := ⟨_, rfl⟩
  have HB := Lib.hid (show Below w.heap.size w w_ by rw [hw]; exact Below.refl _ _)
  suffices H : Calls Try.prog 37 #[.slice A n c, .agg ys.toArray] w_ (PutR21 w rs) by rw [hw] at H; exact H
  clear hw h hp hv hrs hth hds hsu hix ham hxs hys
  go_enter Try.func37, Try.ntmps37
  go_wp2_with (first | (with_reducible refine wpl_box (o := ⟨some 3, _, _, _, _, _⟩) rfl rfl rfl ?_))
  intro w2_ hb2_ hb_ hsz2_
  have HX_ := Lib.hid (at_mk hb2_ HYC.out.len)
  clear hb2_ hsz2_
  have HG_ := Lib.hid HB.out.size
  have HB_ := Lib.hid (HB.out.grow' hb_)
  clear HB
  have HB := HB_
  clear HB_
  generalize hg_ : w_.heap.size = g3 at HX_ HG_ ⊢
  clear hg_
  have HP_g := HG_
  clear HG_
  have HP := HX_
  clear hb_ HX_
  try clear w_
  rename World => w_
  have c32 := HP.out.blk.at_ HIX.out
  have d97 := HP.out.blk.at_ HAM.out
  have HR5 := Lib.hid (show (ix < 0 ∨ 16 ≤ ix ∨ am = 0 ∨ 4611686018427387904 < am) → rs = (l, 5) from fun h => by
    rw [HRS.out]; unfold rputK; rw [if_pos (by rw [← HIXE.out, ← HAME.out]; exact h)])
  rcases Int.lt_or_le ix 0 with h1 | h1
  · go_wp2_with fail
    refine ret_t_t rfl rfl rfl rfl ?_
    rw [HR5.out (.inl h1)]
    exact ⟨A, n, c, rfl, HH.out.call HB.out, HB.out⟩
  have h1f : (ix < 0) = False := eq_false (by omega)
  rcases Int.lt_or_le 15 ix with h2 | h2
  · go_wp2_with fail
    refine ret_t_t rfl rfl rfl rfl ?_
    rw [HR5.out (.inr (.inl (by omega)))]
    exact ⟨A, n, c, rfl, HH.out.call HB.out, HB.out⟩
  have h2f : (15 < ix) = False := eq_false (by omega)
  by_cases h3 : am = 0
  · have h3e : (am == 0) = true := by simpa using h3
    go_wp2_with fail
    refine ret_t_t rfl rfl rfl rfl ?_
    rw [HR5.out (.inr (.inr (.inl h3)))]
    exact ⟨A, n, c, rfl, HH.out.call HB.out, HB.out⟩
  have h3f : (am == 0) = false := by simpa using h3
  rcases Int.lt_or_le 4611686018427387904 am with h4 | h4
  · go_wp2_with fail
    refine ret_t_t rfl rfl rfl rfl ?_
    rw [HR5.out (.inr (.inr (.inr h4)))]
    exact ⟨A, n, c, rfl, HH.out.call HB.out, HB.out⟩
  have h4f : (4611686018427387904 < am) = False := eq_false (by omega)
  have HNR := Lib.hid (show ¬ (p.2 < 0 ∨ 16 ≤ p.2 ∨ v.1.2 = 0 ∨ 4611686018427387904 < v.1.2) by rw [← HIXE.out, ← HAME.out]; omega)
  clear HR5
  have HM1 := Lib.hid (show ∀ j u, xs[j]? = some u → w_.cell? ⟨g3, 0 + j, none⟩ = some u from fun j u hu => HP.out.blk.at_ (HYP.out j u hu))
  go_wp2_with (first | (with_reducible refine wpl_loadm (o := ⟨some 37, _, _, _, _, _⟩) rfl rfl row_point HM1.out rfl HPC.out.len ?_))
  refine (HGET.out w_ (HH.out.call HB.out)).mono ?_
  rintro e w_ ⟨rfl, hb_⟩
  have HB_ := Lib.hid (HB.out.grow' hb_)
  clear HB
  have HB := HB_
  clear HB_
  have HP_ := Lib.hid (HP.out.grow hb_)
  clear HP
  have HP := HP_
  clear HP_
  clear hb_
  clear c32 d97 HGET HM1
  go_wp2_with (first | (with_reducible refine wpl_alloc (o := ⟨some 6, _, _, _, _, _⟩) rfl rfl zero_atk ?_))
  intro w1_ hb1_ hbw1_ hsz1_
  have HB1_ := Lib.hid (at_mk hb1_ len_atk)
  have HBW1_ := Lib.hid hbw1_
  have HZ1_ := Lib.hid hsz1_
  clear hb1_ hbw1_ hsz1_
  go_wp2_with (first | (with_reducible refine wpl_storeb (o := ⟨none, .store _ _ _, _, _, _, _⟩) rfl rfl row_atk HB1_.out.blk rfl rfl HB1_.out.len HDC.out.len HDC.out.one ?_))
  intro w2_ hb2_ hg2_ hsz2_
  have hb_ := var_grow HBW1_.out HZ1_.out hg2_
  have HX_ := Lib.hid (at_mk hb2_ HDC.out.len)
  clear hb2_ hg2_ hsz2_ HB1_ HBW1_ HZ1_
  have HB_ := Lib.hid (HB.out.grow' hb_)
  clear HB
  have HB := HB_
  clear HB_
  have HP_ := Lib.hid (HP.out.grow hb_)
  clear HP
  have HP := HP_
  clear HP_
  generalize hg_ : w_.heap.size = g8 at HX_ ⊢
  clear hg_
  have HD := HX_
  clear hb_ HX_
  clear w1_
  try clear w_
  rename World => w_
  cases th with
  | true =>
    have HR24 := Lib.hid (show rs = (l, 24) by rw [HRS.out]; unfold rputK; rw [if_neg HNR.out, if_pos HTH.out.symm])
    go_wp2_with fail
    refine ret_t_t rfl rfl rfl rfl ?_
    rw [HR24.out]
    exact ⟨A, n, c, rfl, HH.out.call HB.out, HB.out⟩
  | false =>
    rcases Nat.lt_or_ge n 64 with hn2 | hn2
    rotate_left
    · obtain rfl : n = 64 := by omega
      have HR18 := Lib.hid (show rs = (l, 18) by rw [HRS.out]; unfold rputK; rw [if_neg HNR.out, if_neg (by rw [← HTH.out]; simp), if_pos (by omega)])
      go_wp2_with fail
      refine ret_t_t rfl rfl rfl rfl ?_
      rw [HR18.out]
      exact ⟨A, 64, c, rfl, HH.out.call HB.out, HB.out⟩
    have hn3 : (n : Int) < 64 := by omega
    obtain ⟨md, hmd⟩ : ∃ q, q = 4611686018427387904 - am := ⟨_, rfl⟩
    have HMD := Lib.hid hmd
    have v1 : IntKind.u64.wrap (4611686018427387904 - am) = md := by rw [hmd]; exact u64_in _ ⟨by have := HAMB.out; omega, by have := HAMB.out; omega⟩
    clear hmd
    try go_wp2_with fail
    repeat' (first | (with_reducible refine wp_plan (id := 8) Grow [0,4,0,0,1,0,0] (.get 0 (.get 2 (.get 3 (.get 4 (.get 5 (.act 1 (.get 6 .done))))))) (by kernel_rfl) (by kernel_rfl) Grow.refl Grow.trans ?_) | go_values | go_skip | go_guarded | go_step | go_upon | go_back)
    intro w_ hd_
    have hb_ := hd_.grow
    have HB_ := Lib.hid (HB.out.grow' hb_)
    clear HB
    have HB := HB_
    clear HB_
    have HP_ := Lib.hid (HP.out.grow hb_)
    clear HP
    have HP := HP_
    clear HP_
    clear hb_ hd_
    have d97 := HP.out.blk.at_ HAM.out
    repeat (first | (refine pl_calm rfl rfl (by first | exact wanted_none rfl | (go_simp; done) | rfl) (fun w_ => by first | (go_simp; rfl) | (go_simp; done) | rfl) (fun K hK => ?_); go_simp; refine hK _ _ ?_; clear hK K) | (refine pl_skip rfl (by first | (go_simp; done) | rfl) (fun K hK => ?_); go_simp; refine hK _ _ ?_; clear hK K) | (refine pl_skipa rfl (by first | (go_simp; done) | rfl) (fun K hK => ?_); go_simp; refine hK _ _ ?_; clear hK K) | (refine pl_load rfl rfl (by first | exact wanted_none rfl | (go_simp; done) | rfl) rfl (by first | rfl | (go_simp; rfl)) (by kernel_rfl) (by first | exact d97) (fun K hK => ?_); go_simp; refine hK _ _ ?_; clear hK K) | (refine pl_loadnow rfl rfl (by first | exact wanted_none rfl | (go_simp; done) | rfl) rfl (by first | rfl | (go_simp; rfl)) (by kernel_rfl) (by first | exact d97) (fun K hK => ?_); go_simp; refine hK _ _ ?_; clear hK K))
    refine pl_act rfl (by first | exact wanted_none rfl | (go_simp; done) | rfl) (fun K hK => ?_)
    go_wp2_with fail
    refine (HSUM.out _ (HH.out.call HB.out)).mono ?_
    rintro e w_ ⟨rfl, hb_⟩
    go_wp2_with fail
    refine hK _ _ (fun _ => hb_) ?_
    clear hK K
    have HB_ := Lib.hid (HB.out.grow' hb_)
    clear HB
    have HB := HB_
    clear HB_
    have HP_ := Lib.hid (HP.out.grow hb_)
    clear HP
    have HP := HP_
    clear HP_
    clear hb_
    repeat (first | (refine pl_calm rfl rfl (by first | exact wanted_none rfl | (go_simp; done) | rfl) (fun w_ => by first | (go_simp; rfl) | (go_simp; done) | rfl) (fun K hK => ?_); go_simp; refine hK _ _ ?_; clear hK K) | (refine pl_skip rfl (by first | (go_simp; done) | rfl) (fun K hK => ?_); go_simp; refine hK _ _ ?_; clear hK K) | (refine pl_skipa rfl (by first | (go_simp; done) | rfl) (fun K hK => ?_); go_simp; refine hK _ _ ?_; clear hK K))
    refine pl_done ?_
    clear d97 HSUM
    clear v1
    rcases Int.lt_or_le md su with h5 | h5
    · have HR6 := Lib.hid (show rs = (l, 6) by rw [HRS.out]; unfold rputK; rw [if_neg HNR.out, if_neg (by rw [← HTH.out]; simp), if_neg (by omega), ← HAME.out, ← HSU.out, ← HMD.out, if_pos h5])
      go_wp2_with fail
      refine ret_t_t rfl rfl rfl rfl ?_
      rw [HR6.out]
      exact ⟨A, n, c, rfl, HH.out.call HB.out, HB.out⟩
    have h5f : (md < su) = False := eq_false (by omega)
    have HRS1 := Lib.hid (show rs = (insK p v l, 0) by rw [HRS.out]; exact rputK_ok HNR.out HTH.out.symm (by omega) (by rw [← HAME.out, ← HSU.out, ← HMD.out]; omega))
    obtain ⟨z0, hz0⟩ : ∃ z, z = w_.heap.size := ⟨_, rfl⟩
    have HP_z := Lib.hid (show g3 < z0 by rw [hz0]; exact HP.out.lt)
    have HZ0 := Lib.hid (show w.heap.size ≤ z0 by rw [hz0]; exact HB.out.size)
    have HZL := Lib.hid (show z0 ≤ w_.heap.size by rw [hz0]; exact Nat.le_refl _)
    clear h1 h2 h3 h4 h1f h2f h3f h4f hz0 HRS hs
    go_wp2_with fail
    clear h5f h5
    go_loopw [8, 9, 10] (fun s10 s11 iv wr => ∃ (k m : Nat) (A4 : Option Addr) (c4 : Nat) (Y : LocksL) (dn : Bool), k ≤ n ∧ m ≤ 2 * k + 1 ∧ iv = .int .i64 k ∧ s10 = .slice A4 m c4 ∧ s11 = .bool dn ∧ Hid ((dn = true → Y = insK p v (l.take k) ∧ ∃ x ∈ l.take k, cmpP p x.1 < 0) ∧ (dn = false → Y = l.take k ∧ ∀ x ∈ l.take k, ¬ cmpP p x.1 < 0)) ∧ Hid (OwnK wr z0 A4 m c4 Y ∧ At wr g3 85 98 ys ∧ Below w.heap.size w wr ∧ z0 ≤ wr.heap.size)) (fun _ _ iv _ => n - (intOf iv).toNat)
    case atStart => exact ⟨0, 0, none, 0, [], false, by omega, by omega, rfl, rfl, rfl, Lib.hid ⟨(fun h => by cases h), fun _ => ⟨by simp, by simp⟩⟩, Lib.hid ⟨OwnK.nil _ _, HP.out, HB.out, HZL.out⟩⟩
    case round =>
      obtain ⟨k, m, A4, c4, Y, dn, hk, hm, rfl, rfl, rfl, hY, hI⟩ := hrel
      have HY := Lib.hid hY.out
      clear HP HB HZL hY
      have HO := Lib.hid hI.out.1; have HP := Lib.hid hI.out.2.1; have HB := Lib.hid hI.out.2.2.1; have HZL := Lib.hid hI.out.2.2.2
      clear hI
      rename World => w_
      by_cases hlt : k < n
      · obtain ⟨b, off, e, rfl, hbl, he, hok, hcc⟩ := HH.out.at_ hlt
        have HE := Lib.hid he; have HOK := Lib.hid hok
        have HIA := Lib.hid (insK_at l p v k he)
        have HMC := Lib.hid (fun w' (hb : Below w.heap.size w w') => show MidAt w' b (off + k * 98) (encAtK e) from fun j u hu => (hb.cell (p := ⟨b, off + k * 98 + j, none⟩) hbl).trans (hcc j u hu))
        have HEC := Lib.hid (encAtK_cl hok)
        have HEP := Lib.hid (fun j u (hu : (ptV e.1)[j]? = some u) => encAtK_pt hok hu)
        have HPE := Lib.hid (ptV_cl hok.1)
        have HCM := Lib.hid (HCMP.out e hok)
        obtain ⟨zc, hzc⟩ : ∃ q, q = cmpP p e.1 := ⟨_, rfl⟩
        have HZC := Lib.hid hzc
        rw [← hzc] at HCM
        obtain ⟨es, hes⟩ : ∃ q, q = ptV e.1 := ⟨_, rfl⟩
        rw [← hes] at HCM HEP HPE
        obtain ⟨us, hus⟩ : ∃ q, q = encAtK e := ⟨_, rfl⟩
        have HUE := Lib.hid hus
        rw [← hus] at HMC HEC HEP
        clear he hok hcc hzc hes hus hbl
        go_upto_block 1 with fail
        go_cut [8, 9] from 61 to 84 (fun s10 s11 wr => ∃ (m : Nat) (A4 : Option Addr) (c4 : Nat) (Y : LocksL) (dn : Bool), m ≤ 2 * k + 3 ∧ s10 = .slice A4 m c4 ∧ s11 = .bool dn ∧ Hid ((dn = true → Y = insK p v (l.take (k + 1)) ∧ ∃ x ∈ l.take (k + 1), cmpP p x.1 < 0) ∧ (dn = false → Y = l.take (k + 1) ∧ ∀ x ∈ l.take (k + 1), ¬ cmpP p x.1 < 0)) ∧ Hid (OwnK wr z0 A4 m c4 Y ∧ At wr g3 85 98 ys ∧ Below w.heap.size w wr ∧ z0 ≤ wr.heap.size))
        case first =>
          cases dn with
          | true =>
            obtain ⟨hy1, hy2⟩ := HY.out.1 rfl
            obtain ⟨he1, he2⟩ := HIA.out.1 hy2
            have HE1 := Lib.hid he1; have HE2 := Lib.hid he2; have HY1 := Lib.hid hy1
            clear hy1 hy2 he1 he2 HY HIA

            go_wp2_with fail
            repeat' (first | (with_reducible refine wp_phase (id := 15) (fun (_ : Nat) w' => Below w_.heap.size w_ w') [] [(0,0),(0,0),(0,0),(0,0),(0,0),(0,0),(0,0),(0,0),(0,0),(0,0),(0,0),(0,0),(0,0)] (by kernel_rfl) (by kernel_rfl) ?_ ?_) | go_values | go_skip | go_guarded | go_step | go_upon | go_back)
            · exact Drawn.all (Drawn.one w_)
            refine ph_value rfl (by first | rfl | go_simp) (fun k_ _ _ w_ hC_ => by first | (go_simp; rfl) | (go_simp; done) | rfl) (fun K hK => ?_)
            go_simp
            refine hK _ ?_
            clear hK K
            refine ph_value rfl (by first | rfl | go_simp) (fun k_ _ _ w_ hC_ => by first | (go_simp; rfl) | (go_simp; done) | rfl) (fun K hK => ?_)
            go_simp
            refine hK _ ?_
            clear hK K
            refine ph_value rfl (by first | rfl | go_simp) (fun k_ _ _ w_ hC_ => by first | (go_simp; rfl) | (go_simp; done) | rfl) (fun K hK => ?_)
            go_simp
            refine hK _ ?_
            clear hK K
            refine ph_skip rfl (by first | rfl | go_simp) ?_
            (intro K hK; go_simp; refine hK _ ?_; clear hK K)
            refine ph_skip rfl (by first | rfl | go_simp) ?_
            (intro K hK; go_simp; refine hK _ ?_; clear hK K)
            refine ph_skip rfl (by first | rfl | go_simp) ?_
            (intro K hK; go_simp; refine hK _ ?_; clear hK K)
            refine ph_skip rfl (by first | rfl | go_simp) ?_
            (intro K hK; go_simp; refine hK _ ?_; clear hK K)
            refine ph_skip rfl (by first | rfl | go_simp) ?_
            (intro K hK; go_simp; refine hK _ ?_; clear hK K)
            refine ph_skip rfl (by first | rfl | go_simp) ?_
            (intro K hK; go_simp; refine hK _ ?_; clear hK K)
            refine ph_skip rfl (by first | rfl | go_simp) ?_
            (intro K hK; go_simp; refine hK _ ?_; clear hK K)
            refine ph_skip rfl (by first | rfl | go_simp) ?_
            (intro K hK; go_simp; refine hK _ ?_; clear hK K)
            refine ph_skip rfl (by first | rfl | go_simp) ?_
            (intro K hK; go_simp; refine hK _ ?_; clear hK K)
            refine ph_value rfl (by first | rfl | go_simp) (fun k_ _ _ w_ hC_ => by first | (go_simp; rfl) | (go_simp; done) | rfl) (fun K hK => ?_)
            go_simp
            refine hK _ ?_
            clear hK K
            refine ph_nil ?_
            intro w3_ hb_
            replace HP := Lib.hid (HP.out.grow hb_)
            replace HO := Lib.hid (HO.out.grow hb_)
            replace HB := Lib.hid (HB.out.grow' hb_)
            replace HZL := Lib.hid (Nat.le_trans HZL.out hb_.size)
            clear hb_
            try clear w_
            rename World => w_
            have HM_ := Lib.hid (show ∀ j u, us[j]? = some u → w_.cell? ⟨b, off + k * 98 + j, none⟩ = some u from HMC.out w_ HB.out)
            go_wp2_with (first | (with_reducible refine wpl_loadm (o := ⟨some 82, _, _, _, _, _⟩) rfl rfl row_at21 HM_.out rfl HEC.out.len ?_) | (with_reducible refine wpl_row1 (o := ⟨some 83, .buildSlice _ _ _, _, _, _, _⟩) rfl rfl el_at21 rfl HEC.out.len (by decide) ?_))
            intro w2_ hr_ hb_ hs3_
            have HROW := Lib.hid (hr_.sl (sz := 98) (n := 1) (by rw [HEC.out.len]))
            clear HM_
            replace HP := Lib.hid (HP.out.grow hb_)
            replace HO := Lib.hid (HO.out.grow hb_)
            replace HB := Lib.hid (HB.out.grow' hb_)
            replace HZL := Lib.hid (Nat.le_trans HZL.out hb_.size)
            generalize w_.heap.size = q6 at HROW ⊢
            clear hr_ hb_ hs3_
            try clear w_
            rename World => w_
            have HNE := Lib.hid (show ∀ b, b < z0 → some b ≠ A4.map Addr.block from fun b hb e => by have := own_from HO.out.1 b e.symm; omega)
            go_wp2_with (first | (at_builtin; refine wpl_apps rfl rfl el_at21 HO.out.1 rfl HROW.out rfl HEC.out.one (by omega) (by omega) HZL.out ?_))
            intro A7 c7 w2_ ho_ hg_ hA_
            replace HP := Lib.hid (at_mk (HP.out.blk.grown hg_ (HNE.out _ HP_z.out)) HP.out.len)
            replace HB := Lib.hid (show Below w.heap.size w w2_ from HB.out.grown hg_ HB.out.size (fun q hq => Nat.le_trans HZ0.out (own_from HO.out.1 q hq)))
            replace HZL := Lib.hid (Nat.le_trans HZL.out hg_.size)
            replace HO := Lib.hid (show OwnK w2_ z0 A7 (m + 1) c7 (Y ++ [e]) from OwnK.snoc (by rw [← HUE.out]; exact ho_) HO.out.2 HOK.out)
            clear ho_ hg_ hA_ HNE HROW
            try clear w_
            rename World => w_
            go_wp2_with fail
            go_meet
            case rel => exact ⟨m + 1, A7, c7, Y ++ [e], true, by omega, rfl, rfl, Lib.hid ⟨fun _ => ⟨by rw [HE1.out, ← HY1.out], HE2.out⟩, (fun h => by cases h)⟩, Lib.hid ⟨HO.out, HP.out, HB.out, HZL.out⟩⟩
          | false =>
            obtain ⟨hy1, hy2⟩ := HY.out.2 rfl
            have HY1 := Lib.hid hy1; have HY2 := Lib.hid hy2
            have HIB := Lib.hid (HIA.out.2.1 hy2); have HIC := Lib.hid (HIA.out.2.2 hy2)
            clear hy1 hy2 HY HIA
            have HML := Lib.hid (show ∀ w', Below w_.heap.size w_ w' → MidAt w' b (off + k * 98) es from fun w' hb j u hu => by
              have h1 := HMC.out w' (HB.out.grow' hb) (0 + j) u (HEP.out j u hu)
              rwa [Nat.zero_add] at h1)
            go_wp2_with fail
            repeat' (first | (with_reducible refine wp_phase (id := 15) (fun (_ : Nat) w' => Below w_.heap.size w_ w') [] [(0,0),(0,0),(0,0),(0,0),(0,0),(0,0),(0,0),(0,0),(0,0),(0,0),(0,0),(0,0),(0,0)] (by kernel_rfl) (by kernel_rfl) ?_ ?_) | go_values | go_skip | go_guarded | go_step | go_upon | go_back)
            · exact Drawn.all (Drawn.one w_)
            refine ph_value rfl (by first | rfl | go_simp) (fun k_ _ _ w_ hC_ => by first | (go_simp; rfl) | (go_simp; done) | rfl) (fun K hK => ?_)
            go_simp
            refine hK _ ?_
            clear hK K
            refine ph_value rfl (by first | rfl | go_simp) (fun k_ _ _ w_ hC_ => by first | (go_simp; rfl) | (go_simp; done) | rfl) (fun K hK => ?_)
            go_simp
            refine hK _ ?_
            clear hK K
            refine ph_value rfl (by first | rfl | go_simp) (fun k_ _ _ w_ hC_ => by first | (go_simp; rfl) | (go_simp; done) | rfl) (fun K hK => ?_)
            go_simp
            refine hK _ ?_
            clear hK K
            refine ph_value rfl (by first | rfl | go_simp) (fun k_ _ _ w_ hC_ => by first | (go_simp; rfl) | (go_simp; done) | rfl) (fun K hK => ?_)
            go_simp
            refine hK _ ?_
            clear hK K
            refine ph_loadmk rfl (by first | rfl | go_simp) rfl row_point (fun k _ _ w h j u hu => (HP.out.blk.call h).at_ (HYP.out j u hu)) (by first | rfl | (go_simp; done)) HPC.out.len ?_
            (intro K hK; go_simp; refine hK _ ?_; clear hK K)
            refine ph_value rfl (by first | rfl | go_simp) (fun k_ _ _ w_ hC_ => by first | (go_simp; rfl) | (go_simp; done) | rfl) (fun K hK => ?_)
            go_simp
            refine hK _ ?_
            clear hK K
            refine ph_value rfl (by first | rfl | go_simp) (fun k_ _ _ w_ hC_ => by first | (go_simp; rfl) | (go_simp; done) | rfl) (fun K hK => ?_)
            go_simp
            refine hK _ ?_
            clear hK K
            refine ph_value rfl (by first | rfl | go_simp) (fun k_ _ _ w_ hC_ => by first | (go_simp; rfl) | (go_simp; done) | rfl) (fun K hK => ?_)
            go_simp
            refine hK _ ?_
            clear hK K
            refine ph_value rfl (by first | rfl | go_simp) (fun k_ _ _ w_ hC_ => by first | (go_simp; rfl) | (go_simp; done) | rfl) (fun K hK => ?_)
            go_simp
            refine hK _ ?_
            clear hK K
            refine ph_loadmk rfl (by first | rfl | go_simp) rfl row_point (fun k _ _ w h j u hu => HML.out w h j u hu) (by first | rfl | (go_simp; done)) HPE.out.len ?_
            (intro K hK; go_simp; refine hK _ ?_; clear hK K)
            refine ph_call rfl (by first | rfl | go_simp) (fun w => by first | rfl | (go_simp; rfl) | go_simp) (fun k _ _ w h => (HCM.out w).mono fun e w' ⟨he, hb⟩ => ⟨he, below_step h h.size hb⟩) ?_
            (intro K hK; go_simp; refine hK _ ?_; clear hK K)
            refine ph_value rfl (by first | rfl | go_simp) (fun k_ _ _ w_ hC_ => by first | (go_simp; rfl) | (go_simp; done) | rfl) (fun K hK => ?_)
            go_simp
            refine hK _ ?_
            clear hK K
            refine ph_value rfl (by first | rfl | go_simp) (fun k_ _ _ w_ hC_ => by first | (go_simp; rfl) | (go_simp; done) | rfl) (fun K hK => ?_)
            go_simp
            refine hK _ ?_
            clear hK K
            refine ph_nil ?_
            intro w3_ hb_
            replace HP := Lib.hid (HP.out.grow hb_)
            replace HO := Lib.hid (HO.out.grow hb_)
            replace HB := Lib.hid (HB.out.grow' hb_)
            replace HZL := Lib.hid (Nat.le_trans HZL.out hb_.size)
            clear hb_
            try clear w_
            rename World => w_
            clear HML
            by_cases hz : zc < 0
            · have HE1 := Lib.hid (HIB.out (by rw [← HZC.out]; omega))
              clear HIB HIC
              go_wp2_with (first | (with_reducible refine wpl_loadb (o := ⟨some 75, _, _, _, _, _⟩) rfl rfl row_atk HP.out.blk rfl HP.out.len ?_) | (with_reducible refine wpl_row1 (o := ⟨some 76, .buildSlice _ _ _, _, _, _, _⟩) rfl rfl el_at21 rfl HYC.out.len (by decide) ?_))
              intro w2_ hr_ hb_ hs3_
              have HROW := Lib.hid (hr_.sl (sz := 98) (n := 1) (by rw [HYC.out.len]))
              replace HP := Lib.hid (HP.out.grow hb_)
              replace HO := Lib.hid (HO.out.grow hb_)
              replace HB := Lib.hid (HB.out.grow' hb_)
              replace HZL := Lib.hid (Nat.le_trans HZL.out hb_.size)
              generalize w_.heap.size = q6 at HROW ⊢
              clear hr_ hb_ hs3_
              try clear w_
              rename World => w_
              have HNE := Lib.hid (show ∀ b, b < z0 → some b ≠ A4.map Addr.block from fun b hb e => by have := own_from HO.out.1 b e.symm; omega)
              go_wp2_with (first | (at_builtin; refine wpl_apps rfl rfl el_at21 HO.out.1 rfl HROW.out rfl HYC.out.one (by omega) (by omega) HZL.out ?_))
              intro A7 c7 w2_ ho_ hg_ hA_
              replace HP := Lib.hid (at_mk (HP.out.blk.grown hg_ (HNE.out _ HP_z.out)) HP.out.len)
              replace HB := Lib.hid (show Below w.heap.size w w2_ from HB.out.grown hg_ HB.out.size (fun q hq => Nat.le_trans HZ0.out (own_from HO.out.1 q hq)))
              replace HZL := Lib.hid (Nat.le_trans HZL.out hg_.size)
              replace HO := Lib.hid (show OwnK w2_ z0 A7 (m + 1) c7 (Y ++ [(p, v)]) from OwnK.snoc (by rw [← HYE.out]; exact ho_) HO.out.2 ⟨HP0.out, HV0.out⟩)
              clear ho_ hg_ hA_ HNE HROW
              try clear w_
              rename World => w_
              obtain ⟨Y1, hY1⟩ : ∃ q, q = Y ++ [(p, v)] := ⟨_, rfl⟩
              rw [← hY1] at HO
              have HYQ := Lib.hid hY1
              clear hY1
              have HM_ := Lib.hid (show ∀ j u, us[j]? = some u → w_.cell? ⟨b, off + k * 98 + j, none⟩ = some u from HMC.out w_ HB.out)
              go_wp2_with (first | (with_reducible refine wpl_loadm (o := ⟨some 82, _, _, _, _, _⟩) rfl rfl row_at21 HM_.out rfl HEC.out.len ?_) | (with_reducible refine wpl_row1 (o := ⟨some 83, .buildSlice _ _ _, _, _, _, _⟩) rfl rfl el_at21 rfl HEC.out.len (by decide) ?_))
              intro w2_ hr_ hb_ hs3_
              have HROW := Lib.hid (hr_.sl (sz := 98) (n := 1) (by rw [HEC.out.len]))
              clear HM_
              replace HP := Lib.hid (HP.out.grow hb_)
              replace HO := Lib.hid (HO.out.grow hb_)
              replace HB := Lib.hid (HB.out.grow' hb_)
              replace HZL := Lib.hid (Nat.le_trans HZL.out hb_.size)
              generalize w_.heap.size = q6 at HROW ⊢
              clear hr_ hb_ hs3_
              try clear w_
              rename World => w_
              have HNE := Lib.hid (show ∀ b, b < z0 → some b ≠ A7.map Addr.block from fun b hb e => by have := own_from HO.out.1 b e.symm; omega)
              go_wp2_with (first | (at_builtin; refine wpl_apps rfl rfl el_at21 HO.out.1 rfl HROW.out rfl HEC.out.one (by omega) (by omega) HZL.out ?_))
              intro A7 c7 w2_ ho_ hg_ hA_
              replace HP := Lib.hid (at_mk (HP.out.blk.grown hg_ (HNE.out _ HP_z.out)) HP.out.len)
              replace HB := Lib.hid (show Below w.heap.size w w2_ from HB.out.grown hg_ HB.out.size (fun q hq => Nat.le_trans HZ0.out (own_from HO.out.1 q hq)))
              replace HZL := Lib.hid (Nat.le_trans HZL.out hg_.size)
              replace HO := Lib.hid (show OwnK w2_ z0 A7 ((m + 1) + 1) c7 (Y1 ++ [e]) from OwnK.snoc (by rw [← HUE.out]; exact ho_) HO.out.2 HOK.out)
              clear ho_ hg_ hA_ HNE HROW
              try clear w_
              rename World => w_
              go_wp2_with fail
              go_meet
              case rel => exact ⟨m + 1 + 1, A7, c7, Y1 ++ [e], true, by omega, rfl, rfl, Lib.hid ⟨fun _ => ⟨by rw [HE1.out.1, ← HY1.out, HYQ.out], HE1.out.2⟩, (fun h => by cases h)⟩, Lib.hid ⟨HO.out, HP.out, HB.out, HZL.out⟩⟩
            · have HE1 := Lib.hid (HIC.out (by rw [← HZC.out]; omega))
              have hz0 : 0 ≤ zc := by omega
              clear HIB HIC
              have HM_ := Lib.hid (show ∀ j u, us[j]? = some u → w_.cell? ⟨b, off + k * 98 + j, none⟩ = some u from HMC.out w_ HB.out)
              go_wp2_with (first | (with_reducible refine wpl_loadm (o := ⟨some 82, _, _, _, _, _⟩) rfl rfl row_at21 HM_.out rfl HEC.out.len ?_) | (with_reducible refine wpl_row1 (o := ⟨some 83, .buildSlice _ _ _, _, _, _, _⟩) rfl rfl el_at21 rfl HEC.out.len (by decide) ?_))
              intro w2_ hr_ hb_ hs3_
              have HROW := Lib.hid (hr_.sl (sz := 98) (n := 1) (by rw [HEC.out.len]))
              clear HM_
              replace HP := Lib.hid (HP.out.grow hb_)
              replace HO := Lib.hid (HO.out.grow hb_)
              replace HB := Lib.hid (HB.out.grow' hb_)
              replace HZL := Lib.hid (Nat.le_trans HZL.out hb_.size)
              generalize w_.heap.size = q6 at HROW ⊢
              clear hr_ hb_ hs3_
              try clear w_
              rename World => w_
              have HNE := Lib.hid (show ∀ b, b < z0 → some b ≠ A4.map Addr.block from fun b hb e => by have := own_from HO.out.1 b e.symm; omega)
              go_wp2_with (first | (at_builtin; refine wpl_apps rfl rfl el_at21 HO.out.1 rfl HROW.out rfl HEC.out.one (by omega) (by omega) HZL.out ?_))
              intro A7 c7 w2_ ho_ hg_ hA_
              replace HP := Lib.hid (at_mk (HP.out.blk.grown hg_ (HNE.out _ HP_z.out)) HP.out.len)
              replace HB := Lib.hid (show Below w.heap.size w w2_ from HB.out.grown hg_ HB.out.size (fun q hq => Nat.le_trans HZ0.out (own_from HO.out.1 q hq)))
              replace HZL := Lib.hid (Nat.le_trans HZL.out hg_.size)
              replace HO := Lib.hid (show OwnK w2_ z0 A7 (m + 1) c7 (Y ++ [e]) from OwnK.snoc (by rw [← HUE.out]; exact ho_) HO.out.2 HOK.out)
              clear ho_ hg_ hA_ HNE HROW
              try clear w_
              rename World => w_
              go_wp2_with fail
              go_meet
              case rel => exact ⟨m + 1, A7, c7, Y ++ [e], false, by omega, rfl, rfl, Lib.hid ⟨(fun h => by cases h), fun _ => ⟨by rw [HE1.out.1, ← HY1.out], HE1.out.2⟩⟩, Lib.hid ⟨HO.out, HP.out, HB.out, HZL.out⟩⟩
        case rest =>
          obtain ⟨m2, A5, c5, Y2, dn2, hm2, rfl, rfl, hY2, hI2⟩ := hcut
          clear HO HP HB HZL HY
          go_wp2_with fail
          go_roundw
          case rel => exact ⟨k + 1, m2, A5, c5, Y2, dn2, by omega, by omega, by go_num, rfl, rfl, hY2, hI2⟩
          case measure => simp [intOf]; omega
      · obtain rfl : k = n := by omega
        have HT := Lib.hid (show l.take k = l from List.take_of_length_le (by omega))
        cases dn with
        | true =>
          obtain ⟨hy1, hy2⟩ := HY.out.1 rfl
          have HY1 := Lib.hid (show Y = insK p v l by rw [hy1, HT.out])
          clear hy1 hy2 HY
          go_wp2_with fail
          refine ret_t_t rfl rfl rfl rfl ?_
          rw [HRS1.out]
          exact ⟨A4, m, c4, rfl, by rw [← HY1.out]; exact HO.out.row, HB.out⟩
        | false =>
          obtain ⟨hy1, hy2⟩ := HY.out.2 rfl
          have HY1 := Lib.hid (show Y = l by rw [hy1, HT.out])
          have HY2 := Lib.hid (show insK p v l = l ++ [(p, v)] from insK_end v (by have := hy2; rw [HT.out] at this; exact this))
          clear hy1 hy2 HY
          go_wp2_with (first | (with_reducible refine wpl_loadb (o := ⟨some 88, _, _, _, _, _⟩) rfl rfl row_atk HP.out.blk rfl HP.out.len ?_) | (with_reducible refine wpl_row1 (o := ⟨some 89, .buildSlice _ _ _, _, _, _, _⟩) rfl rfl el_at21 rfl HYC.out.len (by decide) ?_))
          intro w2_ hr_ hb_ hs3_
          have HROW := Lib.hid (hr_.sl (sz := 98) (n := 1) (by rw [HYC.out.len]))
          replace HP := Lib.hid (HP.out.grow hb_)
          replace HO := Lib.hid (HO.out.grow hb_)
          replace HB := Lib.hid (HB.out.grow' hb_)
          replace HZL := Lib.hid (Nat.le_trans HZL.out hb_.size)
          generalize w_.heap.size = q6 at HROW ⊢
          clear hr_ hb_ hs3_
          try clear w_
          rename World => w_
          have HNE := Lib.hid (show ∀ b, b < z0 → some b ≠ A4.map Addr.block from fun b hb e => by have := own_from HO.out.1 b e.symm; omega)
          go_wp2_with (first | (at_builtin; refine wpl_apps rfl rfl el_at21 HO.out.1 rfl HROW.out rfl HYC.out.one (by omega) (by omega) HZL.out ?_))
          intro A7 c7 w2_ ho_ hg_ hA_
          replace HP := Lib.hid (at_mk (HP.out.blk.grown hg_ (HNE.out _ HP_z.out)) HP.out.len)
          replace HB := Lib.hid (show Below w.heap.size w w2_ from HB.out.grown hg_ HB.out.size (fun q hq => Nat.le_trans HZ0.out (own_from HO.out.1 q hq)))
          replace HZL := Lib.hid (Nat.le_trans HZL.out hg_.size)
          replace HO := Lib.hid (show OwnK w2_ z0 A7 (m + 1) c7 (Y ++ [(p, v)]) from OwnK.snoc (by rw [← HYE.out]; exact ho_) HO.out.2 ⟨HP0.out, HV0.out⟩)
          clear ho_ hg_ hA_ HNE HROW
          try clear w_
          rename World => w_
          go_wp2_with fail
          refine ret_t_t rfl rfl rfl rfl ?_
          rw [HRS1.out]
          exact ⟨A7, m + 1, c7, rfl, by rw [HY2.out, ← HY1.out]; exact HO.out.row, HB.out⟩
theorem cutK_at (X : LocksL) (p : PtK) (k : Nat) {e : PtK × LockV} (he : X[k]? = some e) :
    (e.1 = p → cutK (X.take (k + 1)) p = cutK (X.take k) p) ∧ (e.1 ≠ p → cutK (X.take (k + 1)) p = cutK (X.take k) p ++ [e]) := by
  have h1 : X.take (k + 1) = X.take k ++ [e] := by rw [List.take_add_one, he]; rfl
  rw [h1]
  unfold cutK
  rw [List.filter_append]
  refine ⟨fun h => ?_, fun h => ?_⟩
  · rw [List.filter_cons_of_neg (by simpa using h)]; simp
  · rw [List.filter_cons_of_pos (by simpa using h)]; simp
set_option maxRecDepth 100000 in
set_option maxHeartbeats 4000000 in
theorem rfree21_any {A : Option Addr} {n c : Nat} {l : LocksL} (p : PtK) (w : World) (h : RowK w A n l) (hp : PtOK p) (hn : n ≤ 1000000) :
    Calls Try.prog 38 #[.slice A n c, ptA p] w fun e w' => ∃ A' n' c', e = .returned (.slice A' n' c') ∧ RowK w' A' n' (cutK l p) ∧ Below w.heap.size w w' := by
  have HH := Lib.hid h
  have HPC := Lib.hid (ptV_cl hp)
  have hl0 := h.2.2
  have HQQ := Lib.hid (fun (e : PtK × LockV) (he : AtOKK e) => eql_pt e.1 p he.1 hp)
  unfold ptA
  obtain ⟨rs, hrs⟩ : ∃ q, q = cutK l p := ⟨_, rfl⟩
  have HRS := Lib.hid hrs
  rw [← hrs]
  obtain ⟨xs, hxs⟩ : ∃ q, q = ptV p := ⟨_, rfl⟩
  rw [← hxs] at HPC HQQ ⊢
  obtain ⟨w_, hw⟩ : ∃ x, x = w := ⟨_, rfl⟩
  have HB := Lib.hid (show Below w.heap.size w w_ by rw [hw]; exact Below.refl _ _)
  suffices H : Calls Try.prog 38 #[.slice A n c, .agg xs.toArray] w_ (fun e w' => ∃ A' n' c', e = .returned (.slice A' n' c') ∧ RowK w' A' n' rs ∧ Below w.heap.size w w') by rw [hw] at H; exact H
  clear hw h hp hrs hxs
  go_enter Try.func38, Try.ntmps38
  go_wp2_with (first | (with_reducible refine wpl_box (o := ⟨some 3, _, _, _, _, _⟩) rfl rfl rfl ?_))
  intro w2_ hb2_ hb_ hsz2_
  have HX_ := Lib.hid (at_mk hb2_ HPC.out.len)
  clear hb2_ hsz2_
  have HG_ := Lib.hid HB.out.size
  have HB_ := Lib.hid (HB.out.grow' hb_)
  clear HB
  have HB := HB_
  clear HB_
  generalize hg_ : w_.heap.size = g3 at HX_ HG_ ⊢
  clear hg_
  have HP_g := HG_
  clear HG_
  have HP := HX_
  clear hb_ HX_
  try clear w_
  rename World => w_
  obtain ⟨z0, hz0⟩ : ∃ z, z = w_.heap.size := ⟨_, rfl⟩
  have HP_z := Lib.hid (show g3 < z0 by rw [hz0]; exact HP.out.lt)
  have HZ0 := Lib.hid (show w.heap.size ≤ z0 by rw [hz0]; exact HB.out.size)
  have HZL := Lib.hid (show z0 ≤ w_.heap.size by rw [hz0]; exact Nat.le_refl _)
  clear hz0
  go_wp2_with fail
  go_loopw [5, 6] (fun s5 iv wr => ∃ (k m : Nat) (A4 : Option Addr) (c4 : Nat), k ≤ n ∧ m ≤ k ∧ iv = .int .i64 k ∧ s5 = .slice A4 m c4 ∧ Hid (OwnK wr z0 A4 m c4 (cutK (l.take k) p) ∧ At wr g3 52 33 xs ∧ Below w.heap.size w wr ∧ z0 ≤ wr.heap.size)) (fun _ iv _ => n - (intOf iv).toNat)
  case atStart => exact ⟨0, 0, none, 0, by omega, by omega, rfl, rfl, Lib.hid ⟨OwnK.nil _ _, HP.out, HB.out, HZL.out⟩⟩
  case round =>
    obtain ⟨k, m, A4, c4, hk, hm, rfl, rfl, hI⟩ := hrel
    clear HP HB HZL
    obtain ⟨Y, hY⟩ : ∃ Y, Y = cutK (l.take k) p := ⟨_, rfl⟩
    have HY := Lib.hid hY
    have HO := Lib.hid (show OwnK wr z0 A4 m c4 Y by rw [hY]; exact hI.out.1); have HP := Lib.hid hI.out.2.1; have HB := Lib.hid hI.out.2.2.1; have HZL := Lib.hid hI.out.2.2.2
    clear hI hY
    rename World => w_
    by_cases hlt : k < n
    · obtain ⟨b, off, e, rfl, hbl, he, hok, hcc⟩ := HH.out.at_ hlt
      have HOK := Lib.hid hok
      have HIA := Lib.hid (cutK_at l p k he)
      have HMC := Lib.hid (fun w' (hb : Below w.heap.size w w') => show MidAt w' b (off + k * 98) (encAtK e) from fun j u hu => (hb.cell (p := ⟨b, off + k * 98 + j, none⟩) hbl).trans (hcc j u hu))
      have HEC := Lib.hid (encAtK_cl hok)
      have HEP := Lib.hid (fun j u (hu : (ptV e.1)[j]? = some u) => encAtK_pt hok hu)
      have HPE := Lib.hid (ptV_cl hok.1)
      have HQ := Lib.hid (HQQ.out e hok)
      obtain ⟨r, hr⟩ : ∃ r, r = decide (e.1 = p) := ⟨_, rfl⟩
      rw [← hr] at HQ
      have HRR := Lib.hid hr
      obtain ⟨es, hes⟩ : ∃ q, q = ptV e.1 := ⟨_, rfl⟩
      rw [← hes] at HEP HPE HQ
      obtain ⟨us, hus⟩ : ∃ q, q = encAtK e := ⟨_, rfl⟩
      have HUE := Lib.hid hus
      rw [← hus] at HMC HEC HEP
      clear he hok hcc hr hes hus hbl
      have HML := Lib.hid (show ∀ w', Below w_.heap.size w_ w' → MidAt w' b (off + k * 98) es from fun w' hb j u hu => by
        have h1 := HMC.out w' (HB.out.grow' hb) (0 + j) u (HEP.out j u hu)
        rwa [Nat.zero_add] at h1)
      go_wp2_with fail
      repeat' (first | (with_reducible refine wp_phase (id := 5) (fun (_ : Nat) w' => Below w_.heap.size w_ w') [] [(0,0),(0,0),(0,0),(0,0),(0,0),(0,0),(0,0)] (by kernel_rfl) (by kernel_rfl) ?_ ?_) | go_values | go_skip | go_guarded | go_step | go_upon | go_back)
      · exact Drawn.all (Drawn.one w_)
      refine ph_value rfl (by first | rfl | go_simp) (fun k_ _ _ w_ hC_ => by first | (go_simp; rfl) | (go_simp; done) | rfl) (fun K hK => ?_)
      go_simp
      refine hK _ ?_
      clear hK K
      refine ph_value rfl (by first | rfl | go_simp) (fun k_ _ _ w_ hC_ => by first | (go_simp; rfl) | (go_simp; done) | rfl) (fun K hK => ?_)
      go_simp
      refine hK _ ?_
      clear hK K
      refine ph_value rfl (by first | rfl | go_simp) (fun k_ _ _ w_ hC_ => by first | (go_simp; rfl) | (go_simp; done) | rfl) (fun K hK => ?_)
      go_simp
      refine hK _ ?_
      clear hK K
      refine ph_value rfl (by first | rfl | go_simp) (fun k_ _ _ w_ hC_ => by first | (go_simp; rfl) | (go_simp; done) | rfl) (fun K hK => ?_)
      go_simp
      refine hK _ ?_
      clear hK K
      refine ph_loadmk rfl (by first | rfl | go_simp) rfl row_point (fun k _ _ w h j u hu => HML.out w h j u hu) (by first | rfl | (go_simp; done)) HPE.out.len ?_
      (intro K hK; go_simp; refine hK _ ?_; clear hK K)
      refine ph_load rfl (by first | rfl | go_simp) rfl row_point (fun k _ _ w h => HP.out.blk.call h) rfl HPC.out.len ?_
      (intro K hK; go_simp; refine hK _ ?_; clear hK K)
      have heq := HQ.out
      refine ph_value rfl (by first | rfl | go_simp) (fun k_ _ _ w_ hC_ => by first | (go_simp; rfl) | (go_simp; done) | rfl) (fun K hK => ?_)
      go_simp
      refine hK _ ?_
      clear hK K
      clear heq
      refine ph_nil ?_
      intro w3_ hb_
      replace HP := Lib.hid (HP.out.grow hb_)
      replace HO := Lib.hid (HO.out.grow hb_)
      replace HB := Lib.hid (HB.out.grow' hb_)
      replace HZL := Lib.hid (Nat.le_trans HZL.out hb_.size)
      clear hb_
      try clear w_
      rename World => w_
      clear HML
      cases r with
      | true =>
        have HE1 := Lib.hid (show cutK (l.take (k + 1)) p = Y by rw [HIA.out.1 (of_decide_eq_true HRR.out.symm), ← HY.out])
        go_wp2_with fail
        go_roundw
        case rel => exact ⟨k + 1, m, A4, c4, by omega, by omega, by go_num, rfl, Lib.hid ⟨by rw [HE1.out]; exact HO.out, HP.out, HB.out, HZL.out⟩⟩
        case measure => simp [intOf]; omega
      | false =>
        have HE1 := Lib.hid (show cutK (l.take (k + 1)) p = Y ++ [e] by rw [HIA.out.2 (of_decide_eq_false HRR.out.symm), ← HY.out])
        have HM_ := Lib.hid (show ∀ j u, us[j]? = some u → w_.cell? ⟨b, off + k * 98 + j, none⟩ = some u from HMC.out w_ HB.out)
        go_wp2_with (first | (with_reducible refine wpl_loadm (o := ⟨some 24, _, _, _, _, _⟩) rfl rfl row_at21 HM_.out rfl HEC.out.len ?_) | (with_reducible refine wpl_row1 (o := ⟨some 25, .buildSlice _ _ _, _, _, _, _⟩) rfl rfl el_at21 rfl HEC.out.len (by decide) ?_))
        intro w2_ hr_ hb_ hs3_
        have HROW := Lib.hid (hr_.sl (sz := 98) (n := 1) (by rw [HEC.out.len]))
        clear HM_
        replace HP := Lib.hid (HP.out.grow hb_)
        replace HO := Lib.hid (HO.out.grow hb_)
        replace HB := Lib.hid (HB.out.grow' hb_)
        replace HZL := Lib.hid (Nat.le_trans HZL.out hb_.size)
        generalize w_.heap.size = q6 at HROW ⊢
        clear hr_ hb_ hs3_
        try clear w_
        rename World => w_
        have HNE := Lib.hid (show ∀ b, b < z0 → some b ≠ A4.map Addr.block from fun b hb e => by have := own_from HO.out.1 b e.symm; omega)
        go_wp2_with (first | (at_builtin; refine wpl_apps rfl rfl el_at21 HO.out.1 rfl HROW.out rfl HEC.out.one (by omega) (by omega) HZL.out ?_))
        intro A7 c7 w2_ ho_ hg_ hA_
        replace HP := Lib.hid (at_mk (HP.out.blk.grown hg_ (HNE.out _ HP_z.out)) HP.out.len)
        replace HB := Lib.hid (show Below w.heap.size w w2_ from HB.out.grown hg_ HB.out.size (fun q hq => Nat.le_trans HZ0.out (own_from HO.out.1 q hq)))
        replace HZL := Lib.hid (Nat.le_trans HZL.out hg_.size)
        replace HO := Lib.hid (show OwnK w2_ z0 A7 (m + 1) c7 (Y ++ [e]) from OwnK.snoc (by rw [← HUE.out]; exact ho_) HO.out.2 HOK.out)
        clear ho_ hg_ hA_ HNE HROW
        try clear w_
        rename World => w_
        go_wp2_with fail
        go_roundw
        case rel => exact ⟨k + 1, m + 1, A7, c7, by omega, by omega, by go_num, rfl, Lib.hid ⟨by rw [HE1.out]; exact HO.out, HP.out, HB.out, HZL.out⟩⟩
        case measure => simp [intOf]; omega
    · obtain rfl : k = n := by omega
      have HT := Lib.hid (show l.take k = l from List.take_of_length_le (by omega))
      have HE1 := Lib.hid (show rs = Y by rw [HRS.out, HY.out, HT.out])
      go_wp2_with fail
      go_ret
      exact ⟨A4, m, c4, rfl, by rw [HE1.out]; exact HO.out.row, HB.out⟩
end Go.Proofs.Ytolbbhbfbpiljaa

/- Contracts of the small functions of package sha. -/
namespace Go.Proofs.Ytolbbhbfbpiljaa
open Go.RowKit
attribute [local go_sem ↓ high] add_w
attribute [local go_sem high] xor_w and_w or_w not_w shr_w shl_w wrap_b8
set_option linter.unusedVariables false

theorem neg_and (n : Nat) (h : 1 ≤ n) (h3 : n ≤ 31) : bits BinOp.and IntKind.u64 (IntKind.u64.wrap (-(n : Int))) 31 = ((32 - n : Nat) : Int) := by
  have : ∀ n : Fin 32, 1 ≤ n.val → bits BinOp.and IntKind.u64 (IntKind.u64.wrap (-(n.val : Int))) 31 = ((32 - n.val : Nat) : Int) := by decide +kernel
  exact this ⟨n, by omega⟩ h

theorem shl_nat (x : UInt32) (k : Nat) (hk : k ≤ 31) : w32 x * 2 ^ k % 4294967296 = w32 (x <<< UInt32.ofNat k) := by
  unfold w32
  rw [UInt32.toNat_shiftLeft, UInt32.toNat_ofNat', Nat.shiftLeft_eq, show k % 2 ^ 32 % 32 = k by omega]
  simp
theorem shr_nat (x : UInt32) (k : Nat) (hk : k ≤ 31) : w32 x / 2 ^ k = w32 (x >>> UInt32.ofNat k) := by
  unfold w32
  rw [UInt32.toNat_shiftRight, UInt32.toNat_ofNat', Nat.shiftRight_eq_div_pow, show k % 2 ^ 32 % 32 = k by omega]
  simp
theorem bits_or_w (a b : UInt32) : bits BinOp.or IntKind.u32 (w32 a) (w32 b) = w32 (a ||| b) := by
  have h := or_w a b
  rw [intBits_or] at h
  injection h with h
  injection h

/-- A byte of a slice at place k. -/
theorem Sl.byte {w : World} {Bd n : Nat} {A : Option Addr} {bs : List UInt8} (h : Sl w Bd 1 A n (bs.map B)) {k : Nat} (hk : k < n) : ∃ b off, A = some ⟨b, off, none⟩ ∧ b < Bd ∧ k < bs.length ∧ w.cell? ⟨b, off + k, none⟩ = some (.int .u8 (b8 (bs[k]?.getD 0))) := by
  obtain ⟨b, off, u, e, hb, hu, hc⟩ := h.at_ hk
  rw [List.getElem?_map] at hu
  obtain ⟨z, h1, rfl⟩ := Option.map_eq_some_iff.1 hu
  exact ⟨b, off, e, hb, (List.getElem?_eq_some_iff.1 h1).1, by rw [hc, h1]; rfl⟩

theorem W0 : Value.int .u32 0 = W 0 := rfl

theorem row_id : RowT Try.prog 29 32 := ⟨_, Try.underlying29, by kernel_rfl, by kernel_rfl⟩
theorem zero_id : (Try.prog.info? 29).map (·.zero) = some (some (.agg (List.replicate 32 (B 0)).toArray)) := by kernel_rfl

end Go.Proofs.Ytolbbhbfbpiljaa

/- Contracts of sha.bytes, sha.step. -/
namespace Go.Proofs.Ytolbbhbfbpiljaa
open Go.RowKit
attribute [local go_sem ↓ high] add_w
attribute [local go_sem high] xor_w and_w or_w not_w shr_w shl_w wrap_b8
set_option linter.unusedVariables false

theorem info_u8 : (Try.prog.info? 5).map (fun i => (i.zero, i.size, i.bytes)) = some (some (.int .u8 0), 1, 1) := by kernel_rfl
theorem el_u8 : ElemT Try.prog 22 5 1 1 := elemT Try.underlying22 info_u8 rfl (by omega)

theorem one8 {a b c d e f g h : Int} : ∀ u ∈ [Value.int .u32 a, .int .u32 b, .int .u32 c, .int .u32 d, .int .u32 e, .int .u32 f, .int .u32 g, .int .u32 h], u.oneCell' = true := by
  intro u hu
  simp at hu
  rcases hu with rfl | rfl | rfl | rfl | rfl | rfl | rfl | rfl <;> rfl
theorem len8 {a b c d e f g h : Value} : [a, b, c, d, e, f, g, h].length = 8 := rfl

end Go.Proofs.Ytolbbhbfbpiljaa

/- Contracts of slices.Grow, slices.Concat at []byte. -/
namespace Go.Proofs.Ytolbbhbfbpiljaa
open Go.RowKit
set_option linter.unusedVariables false

/-- 'append(s[:0], make([]T, n)...)' on nil. -/
theorem run_append_zeros {P : Program} (w : World) (t ti ty e : TypeId) (i : TypeInfo) (z : Value) (ht : P.underlying t = some (.slice e)) (hti : P.underlying ti = some (.int .i64)) (hi : P.info? e = some i) (hz : i.zero = some z)
    (hs : i.size = 1) (hzs : z.cells.size = 1) (n : Nat) (h0 : 0 < n) (hb : n * i.bytes ≤ 140737488355328) (hn : n ≤ 140737488355328) :
    (Builtin.append_ #[t, ti] ty #[.slice none 0 0, .int .i64 (n : Int)]).run P w = .ok (.slice (some ⟨w.heap.size, 0, none⟩) n (grownCap w n 0 e)) (w.drew.alloc (.cells (Builtin.zeroCells z.cells n ++ Builtin.zeroCells z.cells (grownCap w n 0 e - n)) e)) := by
  have h1 : IntKind.i64.wrap (n : Int) = n := IntWalk.i64_in _ (by omega)
  have h2 : ¬ ((n : Int) < 0) := by omega
  have h3 : ¬ (281474976710656 < (n : Int) * (i.bytes : Int)) := by
    have : ((n * i.bytes : Nat) : Int) ≤ 140737488355328 := by omega
    rw [Int.natCast_mul] at this
    omega
  have h4 : ¬ (9223372036854775807 < (n : Int)) := by omega
  have h5 : n ≠ 0 := by omega
  have h6 : ¬ (281474976710656 < Builtin.nextslicecap n 0 * i.bytes) := by rw [nextslicecap_zero h0]; omega
  simp [Builtin.append_, run_underlying ht, run_underlying hti, sizeOf, typeInfo, zeroValue, hi, hz, hs, asInt, asIntOf, h1, h2, h3, h4, h5, h6, Question.forced, run_firstCells_none, newRow, grownCap]

theorem wpl_zeros {P : Program} {w : World} {ops : Array Oper} {rest : List Oper} {o : Oper} {a : Act} {Q : Exit → Act → World → Prop} (hgd : o.guard = none) {s x : Operand} {t ti : TypeId}
    (ho : o.op = .call { callee := .builtin .append, args := #[s, x], argTypes := #[t, ti] }) (hti : P.underlying ti = some (.int .i64))
    {e : TypeId} {bytes : Nat} (HE : ElemT P t e 1 bytes) (hs : a.eval s = .slice none 0 0) {n : Nat} (hx : a.eval x = .int .i64 (n : Int)) (h0 : 0 < n) (hb : n * bytes ≤ 140737488355328) (hn : n ≤ 140737488355328)
    (h : ∀ c w', w'.ownsRow w.heap.size e 1 (.slice (some ⟨w.heap.size, 0, none⟩) 0 c) 0 [] → n ≤ c → Below w.heap.size w w' → wpList P ops Q rest (a.put o.dst (.slice (some ⟨w.heap.size, 0, none⟩) n c)) w') : wpList P ops Q (o :: rest) a w := by
  refine wpList_plain hgd fun K hK => ?_
  obtain ⟨i, z, hi, hz, hsz, hby, hzs, _⟩ := HE.hi
  have hrun := run_append_zeros (P := P) w t ti o.type e i z HE.ht hti hi hz hsz hzs n h0 (by rw [hby]; exact hb) hn
  unfold Oper.wp execOp
  simp only [ho, resolve, invoke, builtin, Sem.run_bind, Sem.run_pure, Result.andThen_ok, List.map_toArray, List.map_cons, List.map_nil, hs, hx, hrun]
  have hge := grownCap_ge w n 0 e
  refine hK _ _ (h _ _ ?_ hge ?_)
  · refine World.ownsRow_made w.drew _ _ (Nat.le_refl _) (grownCap_le_maxLen w n 0 e (by simp only [maxLen]; omega)) ?_
    simp [Builtin.zeroCells, hzs]; omega
  · exact (Below.drew (Below.refl _ _)).alloc (Nat.le_refl _) _

/-- A slice of slices of bytes. -/
def Parts (w : World) (Bd : Nat) (A : Option Addr) (n : Nat) (ps : List (Value × List UInt8)) : Prop :=
  Sl w Bd 1 A n (ps.map Prod.fst) ∧ ∀ p ∈ ps, ∃ A c, p.1 = .slice A p.2.length c ∧ p.2.length ≤ c ∧ Sl w Bd 1 A p.2.length (p.2.map B)

theorem Parts.below {w w' : World} {Bd : Nat} {A : Option Addr} {n : Nat} {ps : List (Value × List UInt8)} (h : Parts w Bd A n ps) (hb : Below Bd w w') : Parts w' Bd A n ps :=
  ⟨h.1.below hb, fun p hp => let ⟨A, c, e, hc, hs⟩ := h.2 p hp; ⟨A, c, e, hc, hs.below hb⟩⟩
theorem Parts.more {w : World} {Bd B' : Nat} {A : Option Addr} {n : Nat} {ps : List (Value × List UInt8)} (h : Parts w Bd A n ps) (hB : Bd ≤ B') : Parts w B' A n ps :=
  ⟨h.1.more hB, fun p hp => let ⟨A, c, e, hc, hs⟩ := h.2 p hp; ⟨A, c, e, hc, hs.more hB⟩⟩
theorem Parts.len {w : World} {Bd : Nat} {A : Option Addr} {n : Nat} {ps : List (Value × List UInt8)} (h : Parts w Bd A n ps) : ps.length = n := by
  have := h.1.len; simpa using this
theorem Parts.at_ {w : World} {Bd : Nat} {A : Option Addr} {n : Nat} {ps : List (Value × List UInt8)} (h : Parts w Bd A n ps) {k : Nat} (hk : k < n) :
    ∃ b off A2 c2 bs, A = some ⟨b, off, none⟩ ∧ ps[k]? = some (.slice A2 bs.length c2, bs) ∧ w.cell? ⟨b, off + k, none⟩ = some (.slice A2 bs.length c2) ∧ bs.length ≤ c2 ∧ Sl w Bd 1 A2 bs.length (bs.map B) := by
  obtain ⟨b, off, u, e, hb, hu, hc⟩ := h.1.at_ hk
  rw [List.getElem?_map] at hu
  obtain ⟨p, h1, rfl⟩ := Option.map_eq_some_iff.1 hu
  obtain ⟨A2, c2, he, hcc, hs⟩ := h.2 p (List.mem_of_getElem? h1)
  exact ⟨b, off, A2, c2, p.2, e, by rw [h1, ← he], by rw [hc, he], hcc, hs⟩

def cat (ps : List (Value × List UInt8)) : List UInt8 := (ps.map Prod.snd).flatten
theorem cat_take (ps : List (Value × List UInt8)) (k : Nat) (p : Value × List UInt8) (h : ps[k]? = some p) : cat (ps.take (k + 1)) = cat (ps.take k) ++ p.2 := by
  unfold cat
  rw [List.take_add_one, h]
  simp
theorem cat_le (ps : List (Value × List UInt8)) (k : Nat) : (cat (ps.take k)).length ≤ (cat ps).length := by
  unfold cat
  conv => rhs; rw [← List.take_append_drop k ps]
  simp only [List.map_append, List.flatten_append, List.length_append]
  omega
attribute [irreducible] cat
theorem bytes_one (bs : List UInt8) : ∀ u ∈ bs.map B, u.oneCell' = true := fun u hu => by obtain ⟨x, _, rfl⟩ := List.mem_map.1 hu; rfl

end Go.Proofs.Ytolbbhbfbpiljaa

/- Contract of slices.Chunk at []byte: the iterator that it hands back. -/
namespace Go.Proofs.Ytolbbhbfbpiljaa
open Go.RowKit Go.Shelf
set_option linter.unusedVariables false

/-- Below n₀ all blocks but gv are as they were. -/
def KeepX (gv n₀ : Nat) (W W' : World) : Prop := ∀ k, k < n₀ → k ≠ gv → W'.heap[k]? = W.heap[k]?

end Go.Proofs.Ytolbbhbfbpiljaa

/- Contract of sha.Sum. -/
namespace Go.Proofs.Ytolbbhbfbpiljaa
open Go.RowKit Go.Shelf
set_option linter.unusedVariables false

theorem i128 : Value.int .u8 128 = B 128 := rfl
theorem i0 : Value.int .u8 0 = B 0 := rfl
theorem zeros_lt (L j : Nat) (h : j < zerosFor L) : (L + 1 + j) % 64 ≠ 56 := by unfold zerosFor at h; omega
theorem zeros_eq (L : Nat) : (L + 1 + zerosFor L) % 64 = 56 := by unfold zerosFor; omega

attribute [local go_sem] Oper.semAt_some

theorem row_ne_blk {V : World} {Bd g : Nat} {t : TypeId} {cs : List Value} {row : Option Nat} (hb : Blk V g t cs) (hr : ∀ r, row = some r → Bd ≤ r ∧ ∃ o : Obj, V.heap[r]? = some o ∧ o.isCells = false) : some g ≠ row := by
  intro e
  obtain ⟨_, o, ho, hc⟩ := hr g e.symm
  unfold Blk at hb
  rw [hb] at ho
  cases ho
  cases hc
theorem row_ne_own {V : World} {Bd base : Nat} {e : TypeId} {sz n c g : Nat} {xs : List Value} {row : Option Nat} (h : V.ownsRow base e sz (.slice (some ⟨g, 0, none⟩) n c) n xs) (hr : ∀ r, row = some r → Bd ≤ r ∧ ∃ o : Obj, V.heap[r]? = some o ∧ o.isCells = false) : some g ≠ row := by
  intro he
  obtain ⟨_, o, ho, hc⟩ := hr g he.symm
  rcases h.2 with ⟨hv, _⟩ | ⟨g', cap, cur, hv, _, hg, _⟩
  · cases hv
  · injection hv with hA
    cases hA
    rw [hg] at ho
    cases ho
    cases hc
theorem keeps_of_below {V V' : World} (h : Below V.heap.size V V') : KeepsOthers V V' :=
  ⟨h.size, fun k o hk _ => (h.block k (Array.getElem?_eq_some_iff.1 hk).1).trans hk⟩

theorem run_copy_blk {P : Program} {w : World} {dT sT ty elem t : TypeId} {go o dl dc gq base : Nat} {xs cs : List Value} {m : Nat} (hu : P.underlying dT = some (.slice elem)) (hs : (P.info? elem).map (·.size) = some 1)
    (hb : Blk w go t xs) (hq : w.ownsRow base elem 1 (.slice (some ⟨gq, 0, none⟩) m m) m cs) (hm : m ≤ dl) (hfit : o + m ≤ xs.length) (h1 : ∀ v ∈ cs, v.oneCell' = true) :
    (Builtin.copy_ #[dT, sT] ty #[.slice (some ⟨go, o, none⟩) dl dc, .slice (some ⟨gq, 0, none⟩) m m]).run P w = .ok (goInt m) (w.setRow go (splice xs o cs).toArray) := by
  have hl : cs.length = m := by have := hq.1; omega
  have h := run_copy_row (P := P) w dT sT ty elem go o dl dc ⟨gq, 0, none⟩ m m xs.toArray t cs hu hs hb (by rw [hl]; exact (Nat.min_eq_left hm).symm) (fun j v hv => by
    have h1 := hq.cellAt j (by have := (List.getElem?_eq_some_iff.1 hv).1; omega)
    rw [hv] at h1
    have e : (Addr.add ⟨gq, 0, none⟩ j) = ⟨gq, j, none⟩ := by simp [Addr.add]; omega
    rw [e]; exact h1) (by simp; omega) h1
  rw [hl] at h
  rw [h]
  simp [splice, hl]
theorem splice_take {α : Type} (xs cs : List α) (o : Nat) (h : o ≤ xs.length) : (splice xs o cs).take (o + cs.length) = xs.take o ++ cs := by
  have hl : (xs.take o ++ cs).length = o + cs.length := by simp; omega
  rw [splice, ← List.append_assoc, ← hl]
  exact List.take_left' rfl
theorem blk_setRow {w : World} {g : Nat} {t : TypeId} {cs xs : List Value} (h : Blk w g t cs) : Blk (w.setRow g xs.toArray) g t xs := setRow_heap w g _ _ t _ h
theorem row_32 : RowT Try.prog 29 32 := ⟨_, Try.underlying29, by kernel_rfl, by kernel_rfl⟩
theorem len32 {v : Value} : (List.replicate 32 v).length = 32 := by simp

end Go.Proofs.Ytolbbhbfbpiljaa

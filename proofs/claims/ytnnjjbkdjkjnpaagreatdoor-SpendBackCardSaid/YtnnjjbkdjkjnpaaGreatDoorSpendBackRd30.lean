/- The document's coins: Put, Take. Printed by mkrfc.py. -/
import Derived.Test.YtnnjjbkdjkjnpaaGreatDoorSpendBackRd23
set_option linter.unusedSimpArgs false
set_option linter.unusedVariables false
set_option maxRecDepth 100000
set_option maxHeartbeats 16000000
namespace Go.Proofs.YtnnjjbkdjkjnpaaGreatDoor
open Go.RowKit
theorem info_at19 : (Tryz.prog.info? 80).map (fun i => (i.zero, i.size, i.bytes)) = some (some (.agg (encAtC (pt 0, noCoin)).toArray), 66, 80) := by kernel_rfl
theorem el_at19 : ElemT Tryz.prog 34 80 66 80 := elemT Tryz.underlying34 info_at19 rfl (by omega)
theorem row_at19 : RowT Tryz.prog 80 66 := ⟨_, Tryz.underlying80, by kernel_rfl, by kernel_rfl⟩
theorem encAtC_one (e : PtK × CoinV) : ∀ u ∈ encAtC e, u.oneCell' = true := fun u hu => by
 unfold encAtC at hu
 rcases List.mem_append.1 hu with h | h
 ·unfold ptV at h
  rcases List.mem_append.1 h with h | h
  ·exact mapB_one _ u h
  ·rw [List.mem_singleton] at h; subst h; rfl
 ·exact coinV_one e.2 u h
theorem encAtC_cl {e : PtK × CoinV} (h : AtOKC e) : Cl 66 (encAtC e) := ⟨encAtC_len h, encAtC_one e⟩
theorem built_at0 (parts : List (Nat × Value)) : Tryz.prog.built 80 parts = Instr.fill (fun i => (#[(0, 33), (33, 33)] : Array (Nat × Nat))[i]?) (encAtC (pt 0, noCoin)).toArray parts := by kernel_rfl
theorem pt0_ok : PtOK (pt 0) := ⟨by simp [pt], by decide⟩
theorem built_at {e : PtK × CoinV} (h : AtOKC e) : Tryz.prog.built 80 [(0, .agg (ptV e.1).toArray), (1, .agg (coinV e.2).toArray)] = some (encAtC e).toArray := by
 have l0 := encAtC_len (e := (pt 0, noCoin)) ⟨pt0_ok, noCoin_ok⟩
 have l1 := ptV_length h.1.1
 have l2 := coinV_length h.2
 rw [built_at0, fill_cons (off := 0) (s := 33) (cs := ptV e.1) rfl rfl l1 (by rw [l0]; omega), fill_cons (off := 33) (s := 33) (cs := coinV e.2) rfl rfl l2 (by unfold splice; simp only [List.length_append, List.length_take, List.length_drop, l0, l1]; omega), fill_nil]
 refine congrArg (fun l : List Value => some l.toArray) ?_
 rw [show encAtC e = ptV e.1 ++ coinV e.2 from rfl]
 unfold splice
 rw [l1, l2]
 have l3 : (List.drop (0 + 33) (encAtC (pt 0, noCoin))).length = 33 := by rw [List.length_drop, l0]
 rw [List.take_zero, List.nil_append, List.take_append_of_le_length (by omega), List.take_of_length_le (by omega), List.drop_of_length_le (by simp only [List.length_append]; omega), List.append_nil]
def OwnC (w : World) (base : Nat) (A : Option Addr) (n c : Nat) (Y : CoinsL) : Prop := w.ownsRow base 80 66 (.slice A n c) n (Y.flatMap encAtC) ∧ ∀ e ∈ Y, AtOKC e
theorem fmC_len : ∀ {Y : CoinsL}, (∀ e ∈ Y, AtOKC e) → (Y.flatMap encAtC).length = Y.length * 66
 | [], _ => rfl
 | e :: Y, h => by rw [List.flatMap_cons, List.length_append, encAtC_len (h e (List.mem_cons_self ..)), fmC_len (fun x hx => h x (List.mem_cons_of_mem _ hx)), List.length_cons]; omega
theorem OwnC.len {w : World} {base n c : Nat} {A : Option Addr} {Y : CoinsL} (h : OwnC w base A n c Y) : Y.length = n := by have h1 := h.1.1; rw [fmC_len h.2] at h1; omega
theorem OwnC.row {w : World} {base n c : Nat} {A : Option Addr} {Y : CoinsL} (h : OwnC w base A n c Y) : RowC w A n Y := ⟨Sl.of_own h.1, h.2, h.len⟩
theorem OwnC.nil (w : World) (base : Nat) : OwnC w base none 0 0 [] := ⟨⟨by simp, .inl ⟨rfl, rfl⟩⟩, by simp⟩
theorem OwnC.grow {w w' : World} {base n c : Nat} {A : Option Addr} {Y : CoinsL} (h : OwnC w base A n c Y) (k : Grow w w') : OwnC w' base A n c Y := ⟨own_below h.1 k, h.2⟩
theorem OwnC.snoc {w' : World} {base n c' : Nat} {A' : Option Addr} {Y : CoinsL} {e : PtK × CoinV} (ho : w'.ownsRow base 80 66 (.slice A' (n + 1) c') (n + 1) (Y.flatMap encAtC ++ encAtC e)) (hy : ∀ e ∈ Y, AtOKC e) (he : AtOKC e) : OwnC w' base A' (n + 1) c' (Y ++ [e]) :=
 ⟨by rw [List.flatMap_append, List.flatMap_cons, List.flatMap_nil, List.append_nil]; exact ho, fun x hx => by
  rcases List.mem_append.1 hx with hx | hx
  ·exact hy x hx
  ·rw [List.mem_singleton] at hx; subst hx; exact he⟩
theorem RowC.grow {w w' : World} {A : Option Addr} {n : Nat} {l : CoinsL} (h : RowC w A n l) (hb : Below w.heap.size w w') : RowC w' A n l := h.call hb
theorem insC_at (X : CoinsL) (p : PtK) (c : CoinV) (k : Nat) {e : PtK × CoinV} (he : X[k]? = some e) :
  ((∃ x ∈ X.take k, cmpP p x.1 < 0) → insC p c (X.take (k + 1)) = insC p c (X.take k) ++ [e] ∧ ∃ x ∈ X.take (k + 1), cmpP p x.1 < 0) ∧
  ((∀ x ∈ X.take k, ¬ cmpP p x.1 < 0) → cmpP p e.1 < 0 → insC p c (X.take (k + 1)) = (X.take k ++ [(p, c)]) ++ [e] ∧ ∃ x ∈ X.take (k + 1), cmpP p x.1 < 0) ∧
  ((∀ x ∈ X.take k, ¬ cmpP p x.1 < 0) → ¬ cmpP p e.1 < 0 → X.take (k + 1) = X.take k ++ [e] ∧ ∀ x ∈ X.take (k + 1), ¬ cmpP p x.1 < 0) := by
 have h1 : X.take (k + 1) = X.take k ++ [e] := by rw [List.take_add_one, he]; rfl
 rw [h1]
 refine ⟨fun h => ⟨insC_done h, ?_⟩, fun h h2 => ⟨?_, e, by simp, h2⟩, fun h h2 => ⟨rfl, fun x hx => ?_⟩⟩
 ·obtain ⟨x, hx, hx2⟩ := h
  exact ⟨x, List.mem_append_left _ hx, hx2⟩
 ·rw [insC_not h]
  unfold insC
  rw [if_pos h2]; simp
 ·rcases List.mem_append.1 hx with hx | hx
  ·exact h x hx
  ·rw [List.mem_singleton] at hx; subst hx; exact h2
theorem insC_end {X : CoinsL} {p : PtK} (c : CoinV) (h : ∀ x ∈ X, ¬ cmpP p x.1 < 0) : insC p c X = X ++ [(p, c)] := by
 have := insC_not (c := c) (Z := []) h
 rw [List.append_nil] at this
 rw [this]; rfl
theorem rputC_ok {X : CoinsL} {p : PtK} {c : CoinV} (h1 : ¬ (p.2 < 0 ∨ 16 ≤ p.2 ∨ c.2 = 0 ∨ 4611686018427387904 < c.2)) (h2 : (lookC X p).isSome = false) (h3 : ¬ 256 ≤ X.length) (h4 : ¬ 4611686018427387904 - c.2 < amtC X) : rputC X p c = (insC p c X, 0) := by
 unfold rputC; rw [if_neg h1, h2, if_neg (by simp), if_neg h3, if_neg h4]
def PutR19 (w0 : World) (rs : CoinsL × Int) (e : Ending) (w' : World) : Prop := ∃ A' n' c', e = .returned (.tuple #[.slice A' n' c', .int .i64 rs.2]) ∧ RowC w' A' n' rs.1 ∧ Below w0.heap.size w0 w'
theorem rput19_any {A : Option Addr} {n c : Nat} {l : CoinsL} (p : PtK) (v : CoinV) (w : World) (h : RowC w A n l) (hp : PtOK p) (hv : CoinOK v) (hn : n ≤ 256) (hs : amtC l ≤ 4611686018427387904) :
  Calls Tryz.prog 36 #[.slice A n c, ptA p, coinA v] w (PutR19 w (rputC l p v)) := by
 have HH := kp h; have HP0 := kp hp; have HV0 := kp hv
 have HPC := kp (ptV_cl hp); have HCC := kp (coinV_cl hv)
 have HIX := kp (ptV_ix hp.1); have HAM := kp (coinV_amt hv)
 have HGET := kp (fun w' (h' : RowC w' A n l) => rget19_any (c := c) p w' h' hp (by omega))
 have HSUM := kp (show ∀ w', RowC w' A n l → Calls Tryz.prog 65 #[.slice A n c] w' fun e w'' => e = .returned (.int .u64 (amtC l)) ∧ Below w'.heap.size w' w'' from fun w' h' => (rsum19_any w' h' (by omega) (by omega)).mono fun e w'' ⟨he, hw⟩ => ⟨he, by rw [hw]; exact Below.refl _ _⟩)
 have HYC := kp (encAtC_cl (e := (p, v)) ⟨hp, hv⟩)
 have HBT := kp (built_at (e := (p, v)) ⟨hp, hv⟩)
 have HCMP := kp (fun (e : PtK × CoinV) (he : AtOKC e) w' => rccmp_any p e.1 w' hp.1 he.1.1)
 have HLOK := kp (show CoinOK ((lookC l p).getD noCoin) by
  cases hl : lookC l p with
  | none => exact noCoin_ok
  | some x =>
   obtain ⟨e, he, rfl⟩ := Option.map_eq_some_iff.1 (show (l.find? (fun e => e.1 == p)).map (·.2) = some x from hl)
   exact (h.2.1 e (List.mem_of_find?_eq_some he)).2)
 have HDC := kp (coinV_cl HLOK.out)
 have HNN := kp (amtC_nn h.2.1)
 have hl0 := h.2.2
 unfold ptA coinA at HGET
 unfold ptA coinA
 obtain ⟨rs, hrs⟩ : ∃ q, q = rputC l p v := ⟨_, rfl⟩
 have HRS := kp hrs
 rw [← hrs]
 obtain ⟨th, hth⟩ : ∃ q, q = (lookC l p).isSome := ⟨_, rfl⟩
 have HTH := kp hth
 rw [← hth] at HGET
 obtain ⟨ds, hds⟩ : ∃ q, q = coinV ((lookC l p).getD noCoin) := ⟨_, rfl⟩
 rw [← hds] at HGET HDC
 obtain ⟨su, hsu⟩ : ∃ q, q = amtC l := ⟨_, rfl⟩
 have HSU := kp hsu
 rw [← hsu] at HSUM HNN hs
 obtain ⟨ix, hix⟩ : ∃ q, q = p.2 := ⟨_, rfl⟩
 have HIXE := kp hix
 rw [← hix] at HIX
 obtain ⟨am, ham⟩ : ∃ q, q = v.2 := ⟨_, rfl⟩
 have HAME := kp ham
 rw [← ham] at HAM
 have HAMB := kp (show 0 ≤ am ∧ am ≤ 18446744073709551615 by rw [ham]; exact hv.2)
 obtain ⟨xs, hxs⟩ : ∃ q, q = ptV p := ⟨_, rfl⟩
 obtain ⟨cs, hcs⟩ : ∃ q, q = coinV v := ⟨_, rfl⟩
 obtain ⟨ys, hys⟩ : ∃ q, q = encAtC (p, v) := ⟨_, rfl⟩
 have HYE := kp hys
 rw [← hxs, ← hcs, ← hys] at HBT
 rw [← hxs] at HPC HIX HGET HCMP ⊢
 rw [← hcs] at HCC HAM ⊢
 rw [← hys] at HYC
 obtain ⟨w_, hw⟩ : ∃ x, x = w := ⟨_, rfl⟩
 have HB := kp (show Below w.heap.size w w_ by rw [hw]; exact Below.refl _ _)
 suffices H : Calls Tryz.prog 36 #[.slice A n c, .agg xs.toArray, .agg cs.toArray] w_ (PutR19 w rs) by rw [hw] at H; exact H
 clear hw h hp hv hrs hth hds hsu hix ham hxs hcs hys
 go_enter Tryz.func36, Tryz.ntmps36
 go_wp2_with (first | (with_reducible refine wpl_box (o := ⟨some 4, _, _, _, _, _⟩) rfl rfl rfl ?_))
 intro w2_ hb2_ hb_ hsz2_
 have HX_ := kp (at_mk hb2_ HPC.out.len)
 clear hb2_ hsz2_
 have HG_ := kp HB.out.size
 replace HB := kp (HB.out.grow' hb_)
 generalize hg_ : w_.heap.size = g4 at HX_ HG_ ⊢
 clear hg_
 have HP_g := HG_
 clear HG_
 have HP := HX_
 clear hb_ HX_
 try clear w_
 rename World => w_
 go_wp2_with (first | (with_reducible refine wpl_box (o := ⟨some 5, _, _, _, _, _⟩) rfl rfl rfl ?_))
 intro w2_ hb2_ hb_ hsz2_
 have HX_ := kp (at_mk hb2_ HCC.out.len)
 clear hb2_ hsz2_
 have HG_ := kp HB.out.size
 replace HB := kp (HB.out.grow' hb_)
 replace HP := kp (HP.out.grow hb_)
 generalize hg_ : w_.heap.size = g5 at HX_ HG_ ⊢
 clear hg_
 have HC_g := HG_
 clear HG_
 have HC := HX_
 clear hb_ HX_
 try clear w_
 rename World => w_
 have c32 := HP.out.blk.at_ HIX.out
 have d32 := HC.out.blk.at_ HAM.out
 have HR5 := kp (show (ix < 0 ∨ 16 ≤ ix ∨ am = 0 ∨ 4611686018427387904 < am) → rs = (l, 5) from fun h => by
  rw [HRS.out]; unfold rputC; rw [if_pos (by rw [← HIXE.out, ← HAME.out]; exact h)])
 rcases Int.lt_or_le ix 0 with h1 | h1
 ·go_wp2_with fail
  refine ret_t_t rfl rfl rfl rfl ?_
  rw [HR5.out (.inl h1)]
  exact ⟨A, n, c, rfl, HH.out.call HB.out, HB.out⟩
 have h1f : (ix < 0) = False := eq_false (by omega)
 rcases Int.lt_or_le 15 ix with h2 | h2
 ·go_wp2_with fail
  refine ret_t_t rfl rfl rfl rfl ?_
  rw [HR5.out (.inr (.inl (by omega)))]
  exact ⟨A, n, c, rfl, HH.out.call HB.out, HB.out⟩
 have h2f : (15 < ix) = False := eq_false (by omega)
 by_cases h3 : am = 0
 ·have h3e : (am == 0) = true := by simpa using h3
  go_wp2_with fail
  refine ret_t_t rfl rfl rfl rfl ?_
  rw [HR5.out (.inr (.inr (.inl h3)))]
  exact ⟨A, n, c, rfl, HH.out.call HB.out, HB.out⟩
 have h3f : (am == 0) = false := by simpa using h3
 rcases Int.lt_or_le 4611686018427387904 am with h4 | h4
 ·go_wp2_with fail
  refine ret_t_t rfl rfl rfl rfl ?_
  rw [HR5.out (.inr (.inr (.inr h4)))]
  exact ⟨A, n, c, rfl, HH.out.call HB.out, HB.out⟩
 have h4f : (4611686018427387904 < am) = False := eq_false (by omega)
 have HNR := kp (show ¬ (p.2 < 0 ∨ 16 ≤ p.2 ∨ v.2 = 0 ∨ 4611686018427387904 < v.2) by rw [← HIXE.out, ← HAME.out]; omega)
 clear HR5
 go_wp2_with (with_reducible refine wlb 34 row_point HP.out.blk HP.out.len ?_)
 go_wp2_with fail
 refine (HGET.out w_ (HH.out.call HB.out)).mono ?_
 rintro e w_ ⟨rfl, hb_⟩
 replace HB := kp (HB.out.grow' hb_)
 replace HP := kp (HP.out.grow hb_)
 replace HC := kp (HC.out.grow hb_)
 clear hb_
 clear c32 d32 HGET
 go_wp2_with (first | (with_reducible refine wpl_alloc (o := ⟨some 8, _, _, _, _, _⟩) rfl rfl zero_coin ?_))
 intro w1_ hb1_ hbw1_ hsz1_
 have HB1_ := kp (at_mk hb1_ len_coin)
 have HBW1_ := kp hbw1_
 have HZ1_ := kp hsz1_
 clear hb1_ hbw1_ hsz1_
 go_wp2_with (with_reducible refine wsb row_coin HB1_.out.blk HB1_.out.len HDC.out.len HDC.out.one ?_)
 intro w2_ hb2_ hg2_ hsz2_
 have hb_ := var_grow HBW1_.out HZ1_.out hg2_
 have HX_ := kp (at_mk hb2_ HDC.out.len)
 clear hb2_ hg2_ hsz2_ HB1_ HBW1_ HZ1_
 replace HB := kp (HB.out.grow' hb_)
 replace HP := kp (HP.out.grow hb_)
 replace HC := kp (HC.out.grow hb_)
 generalize hg_ : w_.heap.size = g8 at HX_ ⊢
 clear hg_
 have HD := HX_
 clear hb_ HX_
 clear w1_
 try clear w_
 rename World => w_
 cases th with
 | true =>
  have HR24 := kp (show rs = (l, 24) by rw [HRS.out]; unfold rputC; rw [if_neg HNR.out, if_pos HTH.out.symm])
  go_wp2_with fail
  refine ret_t_t rfl rfl rfl rfl ?_
  rw [HR24.out]
  exact ⟨A, n, c, rfl, HH.out.call HB.out, HB.out⟩
 | false =>
  rcases Nat.lt_or_ge n 256 with hn2 | hn2
  rotate_left
  ·obtain rfl : n = 256 := by omega
   have HR18 := kp (show rs = (l, 18) by rw [HRS.out]; unfold rputC; rw [if_neg HNR.out, if_neg (by rw [← HTH.out]; simp), if_pos (by omega)])
   go_wp2_with fail
   refine ret_t_t rfl rfl rfl rfl ?_
   rw [HR18.out]
   exact ⟨A, 256, c, rfl, HH.out.call HB.out, HB.out⟩
  have hn3 : (n : Int) < 256 := by omega
  obtain ⟨md, hmd⟩ : ∃ q, q = 4611686018427387904 - am := ⟨_, rfl⟩
  have HMD := kp hmd
  have v1 : IntKind.u64.wrap (4611686018427387904 - am) = md := by rw [hmd]; exact u64_in _ ⟨by have := HAMB.out; omega, by have := HAMB.out; omega⟩
  clear hmd
  try go_wp2_with fail
  repeat' (first | (with_reducible refine wp_plan (id := 8) Grow [0,4,0,1,0,0] (.get 0 (.get 2 (.get 3 (.get 4 (.act 1 (.get 5 .done)))))) (by kernel_rfl) (by kernel_rfl) Grow.refl Grow.trans ?_) | go_values | go_skip | go_guarded | go_step | go_upon | go_back)
  intro w_ hd_
  have hb_ := hd_.grow
  replace HB := kp (HB.out.grow' hb_)
  replace HP := kp (HP.out.grow hb_)
  replace HC := kp (HC.out.grow hb_)
  clear hb_ hd_
  have d32 := HC.out.blk.at_ HAM.out
  repeat (first | (refine pl_calm rfl rfl (by first | exact wanted_none rfl | (go_simp; done) | rfl) (fun w_ => by first | (go_simp; rfl) | (go_simp; done) | rfl) (fun K hK => ?_); go_simp; refine hK _ _ ?_; clear hK K) | (refine pl_skip rfl (by first | (go_simp; done) | rfl) (fun K hK => ?_); go_simp; refine hK _ _ ?_; clear hK K) | (refine pl_skipa rfl (by first | (go_simp; done) | rfl) (fun K hK => ?_); go_simp; refine hK _ _ ?_; clear hK K) | (refine pl_load rfl rfl (by first | exact wanted_none rfl | (go_simp; done) | rfl) rfl (by first | rfl | (go_simp; rfl)) (by kernel_rfl) (by first | exact d32) (fun K hK => ?_); go_simp; refine hK _ _ ?_; clear hK K) | (refine pl_loadnow rfl rfl (by first | exact wanted_none rfl | (go_simp; done) | rfl) rfl (by first | rfl | (go_simp; rfl)) (by kernel_rfl) (by first | exact d32) (fun K hK => ?_); go_simp; refine hK _ _ ?_; clear hK K))
  refine pl_act rfl (by first | exact wanted_none rfl | (go_simp; done) | rfl) (fun K hK => ?_)
  go_wp2_with fail
  refine (HSUM.out _ (HH.out.call HB.out)).mono ?_
  rintro e w_ ⟨rfl, hb_⟩
  go_wp2_with fail
  refine hK _ _ (fun _ => hb_) ?_
  clear hK K
  replace HB := kp (HB.out.grow' hb_)
  replace HP := kp (HP.out.grow hb_)
  replace HC := kp (HC.out.grow hb_)
  clear hb_
  repeat ((first | refine plc (fun K hK => ?_) | refine pl_skip rfl (by first | (go_simp; done) | rfl) (fun K hK => ?_) | refine pl_skipa rfl (by first | (go_simp; done) | rfl) (fun K hK => ?_)); go_simp; refine hK _ _ ?_; clear hK K)
  refine pl_done ?_
  clear d32 HSUM
  clear v1
  rcases Int.lt_or_le md su with h5 | h5
  ·have HR6 := kp (show rs = (l, 6) by rw [HRS.out]; unfold rputC; rw [if_neg HNR.out, if_neg (by rw [← HTH.out]; simp), if_neg (by omega), ← HAME.out, ← HSU.out, ← HMD.out, if_pos h5])
   go_wp2_with fail
   refine ret_t_t rfl rfl rfl rfl ?_
   rw [HR6.out]
   exact ⟨A, n, c, rfl, HH.out.call HB.out, HB.out⟩
  have h5f : (md < su) = False := eq_false (by omega)
  have HRS1 := kp (show rs = (insC p v l, 0) by rw [HRS.out]; exact rputC_ok HNR.out HTH.out.symm (by omega) (by rw [← HAME.out, ← HSU.out, ← HMD.out]; omega))
  obtain ⟨z0, hz0⟩ : ∃ z, z = w_.heap.size := ⟨_, rfl⟩
  have HP_z := kp (show g4 < z0 by rw [hz0]; exact HP.out.lt)
  have HC_z := kp (show g5 < z0 by rw [hz0]; exact HC.out.lt)
  have HZ0 := kp (show w.heap.size ≤ z0 by rw [hz0]; exact HB.out.size)
  have HZL := kp (show z0 ≤ w_.heap.size by rw [hz0]; exact Nat.le_refl _)
  clear h1 h2 h3 h4 h1f h2f h3f h4f hz0 HRS hs
  go_wp2_with fail
  clear h5f h5
  go_loopw [10, 11, 12] (fun s10 s11 iv wr => ∃ (k m : Nat) (A4 : Option Addr) (c4 : Nat) (Y : CoinsL) (dn : Bool), k ≤ n ∧ m ≤ 2 * k + 1 ∧ iv = .int .i64 k ∧ s10 = .slice A4 m c4 ∧ s11 = .bool dn ∧ Hid ((dn = true → Y = insC p v (l.take k) ∧ ∃ x ∈ l.take k, cmpP p x.1 < 0) ∧ (dn = false → Y = l.take k ∧ ∀ x ∈ l.take k, ¬ cmpP p x.1 < 0)) ∧ Hid (OwnC wr z0 A4 m c4 Y ∧ At wr g4 69 33 xs ∧ At wr g5 77 33 cs ∧ Below w.heap.size w wr ∧ z0 ≤ wr.heap.size)) (fun _ _ iv _ => n - (intOf iv).toNat)
  case atStart => exact ⟨0, 0, none, 0, [], false, by omega, by omega, rfl, rfl, rfl, kp ⟨(fun h => by cases h), fun _ => ⟨by simp, by simp⟩⟩, kp ⟨OwnC.nil _ _, HP.out, HC.out, HB.out, HZL.out⟩⟩
  case round =>
   obtain ⟨k, m, A4, c4, Y, dn, hk, hm, rfl, rfl, rfl, hY, hI⟩ := hrel
   have HY := kp hY.out
   clear HP HC HB HZL hY
   have HO := kp hI.out.1; have HP := kp hI.out.2.1; have HC := kp hI.out.2.2.1; have HB := kp hI.out.2.2.2.1; have HZL := kp hI.out.2.2.2.2
   clear hI
   rename World => w_
   by_cases hlt : k < n
   ·obtain ⟨b, off, e, rfl, hbl, he, hok, hcc⟩ := HH.out.at_ hlt
    have HE := kp he; have HOK := kp hok
    have HIA := kp (insC_at l p v k he)
    have HMC := kp (fun w' (hb : Below w.heap.size w w') => show MidAt w' b (off + k * 66) (encAtC e) from fun j u hu => (hb.cell (p := ⟨b, off + k * 66 + j, none⟩) hbl).trans (hcc j u hu))
    have HEC := kp (encAtC_cl hok)
    have HEP := kp (fun j u (hu : (ptV e.1)[j]? = some u) => encAtC_pt hok hu)
    have HPE := kp (ptV_cl hok.1)
    have HCM := kp (HCMP.out e hok)
    obtain ⟨zc, hzc⟩ : ∃ q, q = cmpP p e.1 := ⟨_, rfl⟩
    have HZC := kp hzc
    rw [← hzc] at HCM
    obtain ⟨es, hes⟩ : ∃ q, q = ptV e.1 := ⟨_, rfl⟩
    rw [← hes] at HCM HEP HPE
    obtain ⟨us, hus⟩ : ∃ q, q = encAtC e := ⟨_, rfl⟩
    have HUE := kp hus
    rw [← hus] at HMC HEC HEP
    clear he hok hcc hzc hes hus hbl
    go_upto_block 1 with fail
    go_cut [10, 11] from 57 to 81 (fun s10 s11 wr => ∃ (m : Nat) (A4 : Option Addr) (c4 : Nat) (Y : CoinsL) (dn : Bool), m ≤ 2 * k + 3 ∧ s10 = .slice A4 m c4 ∧ s11 = .bool dn ∧ Hid ((dn = true → Y = insC p v (l.take (k + 1)) ∧ ∃ x ∈ l.take (k + 1), cmpP p x.1 < 0) ∧ (dn = false → Y = l.take (k + 1) ∧ ∀ x ∈ l.take (k + 1), ¬ cmpP p x.1 < 0)) ∧ Hid (OwnC wr z0 A4 m c4 Y ∧ At wr g4 69 33 xs ∧ At wr g5 77 33 cs ∧ Below w.heap.size w wr ∧ z0 ≤ wr.heap.size))
    case first =>
     cases dn with
     | true =>
      obtain ⟨hy1, hy2⟩ := HY.out.1 rfl
      obtain ⟨he1, he2⟩ := HIA.out.1 hy2
      have HE1 := kp he1; have HE2 := kp he2; have HY1 := kp hy1
      clear hy1 hy2 he1 he2 HY HIA
      go_wp2_with fail
      repeat' (first | (with_reducible refine wp_phase (id := 15) (fun (_ : Nat) w' => Below w_.heap.size w_ w') [] [(0,0),(0,0),(0,0),(0,0),(0,0),(0,0),(0,0),(0,0),(0,0),(0,0),(0,0),(0,0)] (by kernel_rfl) (by kernel_rfl) ?_ ?_) | go_values | go_skip | go_guarded | go_step | go_upon | go_back)
      ·exact Drawn.all (Drawn.one w_)
      refine ph_value rfl (by first | rfl | go_simp) (fun k_ _ _ w_ hC_ => by first | (go_simp; rfl) | (go_simp; done) | rfl) (fun K hK => ?_)
      go_simp
      refine hK _ ?_
      clear hK K
      refine ph_value rfl (by first | rfl | go_simp) (fun k_ _ _ w_ hC_ => by first | (go_simp; rfl) | (go_simp; done) | rfl) (fun K hK => ?_)
      go_simp
      refine hK _ ?_
      clear hK K
      refine ph_value rfl (by first | rfl | go_simp) (fun k_ _ _ w_ hC_ => by first | (go_simp; rfl) | (go_simp; done) | rfl) (fun K hK => ?_)
      go_simp
      refine hK _ ?_
      clear hK K
      refine ph_skip rfl (by first | rfl | go_simp) ?_
      (intro K hK; go_simp; refine hK _ ?_; clear hK K)
      refine ph_skip rfl (by first | rfl | go_simp) ?_
      (intro K hK; go_simp; refine hK _ ?_; clear hK K)
      refine ph_skip rfl (by first | rfl | go_simp) ?_
      (intro K hK; go_simp; refine hK _ ?_; clear hK K)
      refine ph_skip rfl (by first | rfl | go_simp) ?_
      (intro K hK; go_simp; refine hK _ ?_; clear hK K)
      refine ph_skip rfl (by first | rfl | go_simp) ?_
      (intro K hK; go_simp; refine hK _ ?_; clear hK K)
      refine ph_skip rfl (by first | rfl | go_simp) ?_
      (intro K hK; go_simp; refine hK _ ?_; clear hK K)
      refine ph_skip rfl (by first | rfl | go_simp) ?_
      (intro K hK; go_simp; refine hK _ ?_; clear hK K)
      refine ph_skip rfl (by first | rfl | go_simp) ?_
      (intro K hK; go_simp; refine hK _ ?_; clear hK K)
      refine ph_value rfl (by first | rfl | go_simp) (fun k_ _ _ w_ hC_ => by first | (go_simp; rfl) | (go_simp; done) | rfl) (fun K hK => ?_)
      go_simp
      refine hK _ ?_
      clear hK K
      refine ph_nil ?_
      intro w3_ hb_
      replace HP := kp (HP.out.grow hb_)
      replace HC := kp (HC.out.grow hb_)
      replace HO := kp (HO.out.grow hb_)
      replace HB := kp (HB.out.grow' hb_)
      replace HZL := kp (Nat.le_trans HZL.out hb_.size)
      clear hb_
      try clear w_
      rename World => w_
      have HM_ := kp (show ∀ j u, us[j]? = some u → w_.cell? ⟨b, off + k * 66 + j, none⟩ = some u from HMC.out w_ HB.out)
      go_wp2_with (first | (with_reducible refine wlm 79 row_at19 HM_.out HEC.out.len ?_) | (with_reducible refine wpl_row1 (o := ⟨some 80, .buildSlice _ _ _, _, _, _, _⟩) rfl rfl el_at19 rfl HEC.out.len (by decide) ?_))
      intro w2_ hr_ hb_ hs3_
      have HROW := kp (hr_.sl (sz := 66) (n := 1) (by rw [HEC.out.len]))
      clear HM_
      replace HP := kp (HP.out.grow hb_)
      replace HC := kp (HC.out.grow hb_)
      replace HO := kp (HO.out.grow hb_)
      replace HB := kp (HB.out.grow' hb_)
      replace HZL := kp (Nat.le_trans HZL.out hb_.size)
      generalize w_.heap.size = q6 at HROW ⊢
      clear hr_ hb_ hs3_
      try clear w_
      rename World => w_
      have HNE := kp (show ∀ b, b < z0 → some b ≠ A4.map Addr.block from fun b hb e => by have := own_from HO.out.1 b e.symm; omega)
      go_wp2_with (first | (at_builtin; refine wpl_apps rfl rfl el_at19 HO.out.1 rfl HROW.out rfl HEC.out.one (by omega) (by omega) HZL.out ?_))
      intro A7 c7 w2_ ho_ hg_ hA_
      replace HP := kp (at_mk (HP.out.blk.grown hg_ (HNE.out _ HP_z.out)) HP.out.len)
      replace HC := kp (at_mk (HC.out.blk.grown hg_ (HNE.out _ HC_z.out)) HC.out.len)
      replace HB := kp (show Below w.heap.size w w2_ from HB.out.grown hg_ HB.out.size (fun q hq => Nat.le_trans HZ0.out (own_from HO.out.1 q hq)))
      replace HZL := kp (Nat.le_trans HZL.out hg_.size)
      replace HO := kp (show OwnC w2_ z0 A7 (m + 1) c7 (Y ++ [e]) from OwnC.snoc (by rw [← HUE.out]; exact ho_) HO.out.2 HOK.out)
      clear ho_ hg_ hA_ HNE HROW
      try clear w_
      rename World => w_
      go_wp2_with fail
      go_meet
      case rel => exact ⟨m + 1, A7, c7, Y ++ [e], true, by omega, rfl, rfl, kp ⟨fun _ => ⟨by rw [HE1.out, ← HY1.out], HE2.out⟩, (fun h => by cases h)⟩, kp ⟨HO.out, HP.out, HC.out, HB.out, HZL.out⟩⟩
     | false =>
      obtain ⟨hy1, hy2⟩ := HY.out.2 rfl
      have HY1 := kp hy1; have HY2 := kp hy2
      have HIB := kp (HIA.out.2.1 hy2); have HIC := kp (HIA.out.2.2 hy2)
      clear hy1 hy2 HY HIA
      have HML := kp (show ∀ w', Below w_.heap.size w_ w' → MidAt w' b (off + k * 66) es from fun w' hb j u hu => by
       have h1 := HMC.out w' (HB.out.grow' hb) (0 + j) u (HEP.out j u hu)
       rwa [Nat.zero_add] at h1)
      go_wp2_with fail
      repeat' (first | (with_reducible refine wp_phase (id := 15) (fun (_ : Nat) w' => Below w_.heap.size w_ w') [] [(0,0),(0,0),(0,0),(0,0),(0,0),(0,0),(0,0),(0,0),(0,0),(0,0),(0,0),(0,0)] (by kernel_rfl) (by kernel_rfl) ?_ ?_) | go_values | go_skip | go_guarded | go_step | go_upon | go_back)
      ·exact Drawn.all (Drawn.one w_)
      refine ph_value rfl (by first | rfl | go_simp) (fun k_ _ _ w_ hC_ => by first | (go_simp; rfl) | (go_simp; done) | rfl) (fun K hK => ?_)
      go_simp
      refine hK _ ?_
      clear hK K
      refine ph_value rfl (by first | rfl | go_simp) (fun k_ _ _ w_ hC_ => by first | (go_simp; rfl) | (go_simp; done) | rfl) (fun K hK => ?_)
      go_simp
      refine hK _ ?_
      clear hK K
      refine ph_value rfl (by first | rfl | go_simp) (fun k_ _ _ w_ hC_ => by first | (go_simp; rfl) | (go_simp; done) | rfl) (fun K hK => ?_)
      go_simp
      refine hK _ ?_
      clear hK K
      refine ph_load rfl (by first | rfl | go_simp) rfl row_point (fun k _ _ w h => HP.out.blk.call h) rfl HPC.out.len ?_
      (intro K hK; go_simp; refine hK _ ?_; clear hK K)
      refine ph_value rfl (by first | rfl | go_simp) (fun k_ _ _ w_ hC_ => by first | (go_simp; rfl) | (go_simp; done) | rfl) (fun K hK => ?_)
      go_simp
      refine hK _ ?_
      clear hK K
      refine ph_value rfl (by first | rfl | go_simp) (fun k_ _ _ w_ hC_ => by first | (go_simp; rfl) | (go_simp; done) | rfl) (fun K hK => ?_)
      go_simp
      refine hK _ ?_
      clear hK K
      refine ph_value rfl (by first | rfl | go_simp) (fun k_ _ _ w_ hC_ => by first | (go_simp; rfl) | (go_simp; done) | rfl) (fun K hK => ?_)
      go_simp
      refine hK _ ?_
      clear hK K
      refine ph_value rfl (by first | rfl | go_simp) (fun k_ _ _ w_ hC_ => by first | (go_simp; rfl) | (go_simp; done) | rfl) (fun K hK => ?_)
      go_simp
      refine hK _ ?_
      clear hK K
      refine ph_loadmk rfl (by first | rfl | go_simp) rfl row_point (fun k _ _ w h j u hu => HML.out w h j u hu) (by first | rfl | (go_simp; done)) HPE.out.len ?_
      (intro K hK; go_simp; refine hK _ ?_; clear hK K)
      refine ph_call rfl (by first | rfl | go_simp) (fun w => by first | rfl | (go_simp; rfl) | go_simp) (fun k _ _ w h => (HCM.out w).mono fun e w' ⟨he, hb⟩ => ⟨he, below_step h h.size hb⟩) ?_
      (intro K hK; go_simp; refine hK _ ?_; clear hK K)
      refine ph_value rfl (by first | rfl | go_simp) (fun k_ _ _ w_ hC_ => by first | (go_simp; rfl) | (go_simp; done) | rfl) (fun K hK => ?_)
      go_simp
      refine hK _ ?_
      clear hK K
      refine ph_value rfl (by first | rfl | go_simp) (fun k_ _ _ w_ hC_ => by first | (go_simp; rfl) | (go_simp; done) | rfl) (fun K hK => ?_)
      go_simp
      refine hK _ ?_
      clear hK K
      refine ph_nil ?_
      intro w3_ hb_
      replace HP := kp (HP.out.grow hb_)
      replace HC := kp (HC.out.grow hb_)
      replace HO := kp (HO.out.grow hb_)
      replace HB := kp (HB.out.grow' hb_)
      replace HZL := kp (Nat.le_trans HZL.out hb_.size)
      clear hb_
      try clear w_
      rename World => w_
      clear HML
      by_cases hz : zc < 0
      ·have HE1 := kp (HIB.out (by rw [← HZC.out]; omega))
       clear HIB HIC
       go_wp2_with (first | (with_reducible refine wlb 70 row_point HP.out.blk HP.out.len ?_) | (with_reducible refine wlb 71 row_coin HC.out.blk HC.out.len ?_) | (with_reducible refine wst 72 ?_))
       refine stop_go ?_
       refine wpl_build rfl rfl HBT.out ?_
       go_wp2_with (first | (with_reducible refine wpl_row1 (o := ⟨some 73, .buildSlice _ _ _, _, _, _, _⟩) rfl rfl el_at19 rfl HYC.out.len (by decide) ?_))
       intro w2_ hr_ hb_ hs3_
       have HROW := kp (hr_.sl (sz := 66) (n := 1) (by rw [HYC.out.len]))
       replace HP := kp (HP.out.grow hb_)
       replace HC := kp (HC.out.grow hb_)
       replace HO := kp (HO.out.grow hb_)
       replace HB := kp (HB.out.grow' hb_)
       replace HZL := kp (Nat.le_trans HZL.out hb_.size)
       generalize w_.heap.size = q6 at HROW ⊢
       clear hr_ hb_ hs3_
       try clear w_
       rename World => w_
       have HNE := kp (show ∀ b, b < z0 → some b ≠ A4.map Addr.block from fun b hb e => by have := own_from HO.out.1 b e.symm; omega)
       go_wp2_with (first | (at_builtin; refine wpl_apps rfl rfl el_at19 HO.out.1 rfl HROW.out rfl HYC.out.one (by omega) (by omega) HZL.out ?_))
       intro A7 c7 w2_ ho_ hg_ hA_
       replace HP := kp (at_mk (HP.out.blk.grown hg_ (HNE.out _ HP_z.out)) HP.out.len)
       replace HC := kp (at_mk (HC.out.blk.grown hg_ (HNE.out _ HC_z.out)) HC.out.len)
       replace HB := kp (show Below w.heap.size w w2_ from HB.out.grown hg_ HB.out.size (fun q hq => Nat.le_trans HZ0.out (own_from HO.out.1 q hq)))
       replace HZL := kp (Nat.le_trans HZL.out hg_.size)
       replace HO := kp (show OwnC w2_ z0 A7 (m + 1) c7 (Y ++ [(p, v)]) from OwnC.snoc (by rw [← HYE.out]; exact ho_) HO.out.2 ⟨HP0.out, HV0.out⟩)
       clear ho_ hg_ hA_ HNE HROW
       try clear w_
       rename World => w_
       obtain ⟨Y1, hY1⟩ : ∃ q, q = Y ++ [(p, v)] := ⟨_, rfl⟩
       rw [← hY1] at HO
       have HYQ := kp hY1
       clear hY1
       have HM_ := kp (show ∀ j u, us[j]? = some u → w_.cell? ⟨b, off + k * 66 + j, none⟩ = some u from HMC.out w_ HB.out)
       go_wp2_with (first | (with_reducible refine wlm 79 row_at19 HM_.out HEC.out.len ?_) | (with_reducible refine wpl_row1 (o := ⟨some 80, .buildSlice _ _ _, _, _, _, _⟩) rfl rfl el_at19 rfl HEC.out.len (by decide) ?_))
       intro w2_ hr_ hb_ hs3_
       have HROW := kp (hr_.sl (sz := 66) (n := 1) (by rw [HEC.out.len]))
       clear HM_
       replace HP := kp (HP.out.grow hb_)
       replace HC := kp (HC.out.grow hb_)
       replace HO := kp (HO.out.grow hb_)
       replace HB := kp (HB.out.grow' hb_)
       replace HZL := kp (Nat.le_trans HZL.out hb_.size)
       generalize w_.heap.size = q6 at HROW ⊢
       clear hr_ hb_ hs3_
       try clear w_
       rename World => w_
       have HNE := kp (show ∀ b, b < z0 → some b ≠ A7.map Addr.block from fun b hb e => by have := own_from HO.out.1 b e.symm; omega)
       go_wp2_with (first | (at_builtin; refine wpl_apps rfl rfl el_at19 HO.out.1 rfl HROW.out rfl HEC.out.one (by omega) (by omega) HZL.out ?_))
       intro A7 c7 w2_ ho_ hg_ hA_
       replace HP := kp (at_mk (HP.out.blk.grown hg_ (HNE.out _ HP_z.out)) HP.out.len)
       replace HC := kp (at_mk (HC.out.blk.grown hg_ (HNE.out _ HC_z.out)) HC.out.len)
       replace HB := kp (show Below w.heap.size w w2_ from HB.out.grown hg_ HB.out.size (fun q hq => Nat.le_trans HZ0.out (own_from HO.out.1 q hq)))
       replace HZL := kp (Nat.le_trans HZL.out hg_.size)
       replace HO := kp (show OwnC w2_ z0 A7 ((m + 1) + 1) c7 (Y1 ++ [e]) from OwnC.snoc (by rw [← HUE.out]; exact ho_) HO.out.2 HOK.out)
       clear ho_ hg_ hA_ HNE HROW
       try clear w_
       rename World => w_
       go_wp2_with fail
       go_meet
       case rel => exact ⟨m + 1 + 1, A7, c7, Y1 ++ [e], true, by omega, rfl, rfl, kp ⟨fun _ => ⟨by rw [HE1.out.1, ← HY1.out, HYQ.out], HE1.out.2⟩, (fun h => by cases h)⟩, kp ⟨HO.out, HP.out, HC.out, HB.out, HZL.out⟩⟩
      ·have HE1 := kp (HIC.out (by rw [← HZC.out]; omega))
       have hz0 : 0 ≤ zc := by omega
       clear HIB HIC
       have HM_ := kp (show ∀ j u, us[j]? = some u → w_.cell? ⟨b, off + k * 66 + j, none⟩ = some u from HMC.out w_ HB.out)
       go_wp2_with (first | (with_reducible refine wlm 79 row_at19 HM_.out HEC.out.len ?_) | (with_reducible refine wpl_row1 (o := ⟨some 80, .buildSlice _ _ _, _, _, _, _⟩) rfl rfl el_at19 rfl HEC.out.len (by decide) ?_))
       intro w2_ hr_ hb_ hs3_
       have HROW := kp (hr_.sl (sz := 66) (n := 1) (by rw [HEC.out.len]))
       clear HM_
       replace HP := kp (HP.out.grow hb_)
       replace HC := kp (HC.out.grow hb_)
       replace HO := kp (HO.out.grow hb_)
       replace HB := kp (HB.out.grow' hb_)
       replace HZL := kp (Nat.le_trans HZL.out hb_.size)
       generalize w_.heap.size = q6 at HROW ⊢
       clear hr_ hb_ hs3_
       try clear w_
       rename World => w_
       have HNE := kp (show ∀ b, b < z0 → some b ≠ A4.map Addr.block from fun b hb e => by have := own_from HO.out.1 b e.symm; omega)
       go_wp2_with (first | (at_builtin; refine wpl_apps rfl rfl el_at19 HO.out.1 rfl HROW.out rfl HEC.out.one (by omega) (by omega) HZL.out ?_))
       intro A7 c7 w2_ ho_ hg_ hA_
       replace HP := kp (at_mk (HP.out.blk.grown hg_ (HNE.out _ HP_z.out)) HP.out.len)
       replace HC := kp (at_mk (HC.out.blk.grown hg_ (HNE.out _ HC_z.out)) HC.out.len)
       replace HB := kp (show Below w.heap.size w w2_ from HB.out.grown hg_ HB.out.size (fun q hq => Nat.le_trans HZ0.out (own_from HO.out.1 q hq)))
       replace HZL := kp (Nat.le_trans HZL.out hg_.size)
       replace HO := kp (show OwnC w2_ z0 A7 (m + 1) c7 (Y ++ [e]) from OwnC.snoc (by rw [← HUE.out]; exact ho_) HO.out.2 HOK.out)
       clear ho_ hg_ hA_ HNE HROW
       try clear w_
       rename World => w_
       go_wp2_with fail
       go_meet
       case rel => exact ⟨m + 1, A7, c7, Y ++ [e], false, by omega, rfl, rfl, kp ⟨(fun h => by cases h), fun _ => ⟨by rw [HE1.out.1, ← HY1.out], HE1.out.2⟩⟩, kp ⟨HO.out, HP.out, HC.out, HB.out, HZL.out⟩⟩
    case rest =>
     obtain ⟨m2, A5, c5, Y2, dn2, hm2, rfl, rfl, hY2, hI2⟩ := hcut
     clear HO HP HC HB HZL HY
     go_wp2_with fail
     go_roundw
     case rel => exact ⟨k + 1, m2, A5, c5, Y2, dn2, by omega, by omega, by go_num, rfl, rfl, hY2, hI2⟩
     case measure => simp [intOf]; omega
   ·obtain rfl : k = n := by omega
    have HT := kp (show l.take k = l from List.take_of_length_le (by omega))
    cases dn with
    | true =>
     obtain ⟨hy1, hy2⟩ := HY.out.1 rfl
     have HY1 := kp (show Y = insC p v l by rw [hy1, HT.out])
     clear hy1 hy2 HY
     go_wp2_with fail
     refine ret_t_t rfl rfl rfl rfl ?_
     rw [HRS1.out]
     exact ⟨A4, m, c4, rfl, by rw [← HY1.out]; exact HO.out.row, HB.out⟩
    | false =>
     obtain ⟨hy1, hy2⟩ := HY.out.2 rfl
     have HY1 := kp (show Y = l by rw [hy1, HT.out])
     have HY2 := kp (show insC p v l = l ++ [(p, v)] from insC_end v (by have := hy2; rw [HT.out] at this; exact this))
     clear hy1 hy2 HY
     go_wp2_with (first | (with_reducible refine wlb 85 row_point HP.out.blk HP.out.len ?_) | (with_reducible refine wlb 86 row_coin HC.out.blk HC.out.len ?_) | (with_reducible refine wst 87 ?_))
     refine stop_go ?_
     refine wpl_build rfl rfl HBT.out ?_
     go_wp2_with (first | (with_reducible refine wpl_row1 (o := ⟨some 88, .buildSlice _ _ _, _, _, _, _⟩) rfl rfl el_at19 rfl HYC.out.len (by decide) ?_))
     intro w2_ hr_ hb_ hs3_
     have HROW := kp (hr_.sl (sz := 66) (n := 1) (by rw [HYC.out.len]))
     replace HP := kp (HP.out.grow hb_)
     replace HC := kp (HC.out.grow hb_)
     replace HO := kp (HO.out.grow hb_)
     replace HB := kp (HB.out.grow' hb_)
     replace HZL := kp (Nat.le_trans HZL.out hb_.size)
     generalize w_.heap.size = q6 at HROW ⊢
     clear hr_ hb_ hs3_
     try clear w_
     rename World => w_
     have HNE := kp (show ∀ b, b < z0 → some b ≠ A4.map Addr.block from fun b hb e => by have := own_from HO.out.1 b e.symm; omega)
     go_wp2_with (first | (at_builtin; refine wpl_apps rfl rfl el_at19 HO.out.1 rfl HROW.out rfl HYC.out.one (by omega) (by omega) HZL.out ?_))
     intro A7 c7 w2_ ho_ hg_ hA_
     replace HP := kp (at_mk (HP.out.blk.grown hg_ (HNE.out _ HP_z.out)) HP.out.len)
     replace HC := kp (at_mk (HC.out.blk.grown hg_ (HNE.out _ HC_z.out)) HC.out.len)
     replace HB := kp (show Below w.heap.size w w2_ from HB.out.grown hg_ HB.out.size (fun q hq => Nat.le_trans HZ0.out (own_from HO.out.1 q hq)))
     replace HZL := kp (Nat.le_trans HZL.out hg_.size)
     replace HO := kp (show OwnC w2_ z0 A7 (m + 1) c7 (Y ++ [(p, v)]) from OwnC.snoc (by rw [← HYE.out]; exact ho_) HO.out.2 ⟨HP0.out, HV0.out⟩)
     clear ho_ hg_ hA_ HNE HROW
     try clear w_
     rename World => w_
     go_wp2_with fail
     refine ret_t_t rfl rfl rfl rfl ?_
     rw [HRS1.out]
     exact ⟨A7, m + 1, c7, rfl, by rw [HY2.out, ← HY1.out]; exact HO.out.row, HB.out⟩
end Go.Proofs.YtnnjjbkdjkjnpaaGreatDoor

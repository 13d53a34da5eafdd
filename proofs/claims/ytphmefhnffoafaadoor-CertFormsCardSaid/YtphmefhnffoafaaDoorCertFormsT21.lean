/- Layer 5: climbing, region by region. -/
import Derived.Test.YtphmefhnffoafaaDoorCertFormsT20
set_option linter.unusedSimpArgs false
/- Layer 5: climbing, region by region. -/
namespace Go.Proofs.YtphmefhnffoafaaDoor
open Go.RowKit Go.Shelf
set_option linter.unusedVariables false
noncomputable def clReg (k : Nat) : Code := (((Tryd.f148.body.map regsOf).getD []).find? (fun e => e.1 == k) |>.map (·.2)).getD .skip
theorem Ids.up {w w' : World} {A : Option Addr} {n c : Nat} {ds : List (List UInt8)} (h : Ids w A n c ds) (hb : Below w.heap.size w w') : Ids w' A n c ds := h.grow hb
attribute [local irreducible] nodeB leafB
set_option maxRecDepth 100000 in
set_option maxHeartbeats 1000000 in
theorem cl6 {q_0 q_1 q_4 q_5 q_6 q_7 q_8 q_9 q_11 q_12 q_13 q_14 q_15 q_16 q_17 q_18 q_19 q_20 q_21 q_22 q_23 q_24 q_25 q_26 q_27 q_28 q_29 q_30 q_31 q_32 q_33 q_34 q_35 q_36 q_37 q_38 q_39 q_40 q_41 q_42 q_43 q_44 q_45 q_46 q_47 q_48 q_49 q_50 q_51 q_52 q_53 q_54 q_55 q_56 q_57 q_58 q_59 q_60 q_61 q_62 q_63 q_64 q_65 q_66 q_67 q_68 q_69 q_70 : Value} {Q0 : Exit → Act → World → Prop} {w : World} {A : Option Addr} {n c l N k : Nat} {ds : List (List UInt8)} {last : List UInt8} {ls : List Value} (hN2 : 2 ≤ N) (hN16 : N ≤ 16777216) (hk : k = halfN N) (hl : l < n) (hlast : ds[l]? = some last)
    (HLD : Hid (Dig ls last)) (HI : Hid (Ids w A n c ds))
    (HEX : Hid (∀ {u_30 u_31 u_32 u_33 u_34 u_35 : Value} {w' : World} {g : Nat}, Below w.heap.size w w' → At w' g 23 32 ls →
      Q0 .normal ⟨(q_0 :: q_1 :: (.int .i64 N) :: (.slice A n c) :: q_4 :: q_5 :: q_6 :: q_7 :: q_8 :: q_9 :: (.int .i64 l) :: (.pointer (some ⟨g, 0, none⟩)) :: (.int .i64 k) :: q_13 :: q_14 :: q_15 :: q_16 :: q_17 :: q_18 :: q_19 :: q_20 :: q_21 :: q_22 :: q_23 :: q_24 :: q_25 :: q_26 :: q_27 :: q_28 :: q_29 :: u_30 :: u_31 :: u_32 :: u_33 :: u_34 :: u_35 :: q_36 :: q_37 :: q_38 :: q_39 :: q_40 :: q_41 :: q_42 :: q_43 :: q_44 :: q_45 :: q_46 :: q_47 :: q_48 :: q_49 :: q_50 :: q_51 :: q_52 :: q_53 :: q_54 :: q_55 :: q_56 :: q_57 :: q_58 :: q_59 :: q_60 :: q_61 :: q_62 :: q_63 :: q_64 :: q_65 :: q_66 :: q_67 :: q_68 :: q_69 :: q_70 :: []).toArray, []⟩ w')) :
    Code.wp Tryd.prog (clReg 6) Q0 ⟨(q_0 :: q_1 :: (.int .i64 N) :: (.slice A n c) :: q_4 :: q_5 :: q_6 :: q_7 :: q_8 :: q_9 :: (.int .i64 l) :: q_11 :: q_12 :: q_13 :: q_14 :: q_15 :: q_16 :: q_17 :: q_18 :: q_19 :: q_20 :: q_21 :: q_22 :: q_23 :: q_24 :: q_25 :: q_26 :: q_27 :: q_28 :: q_29 :: q_30 :: q_31 :: q_32 :: q_33 :: q_34 :: q_35 :: q_36 :: q_37 :: q_38 :: q_39 :: q_40 :: q_41 :: q_42 :: q_43 :: q_44 :: q_45 :: q_46 :: q_47 :: q_48 :: q_49 :: q_50 :: q_51 :: q_52 :: q_53 :: q_54 :: q_55 :: q_56 :: q_57 :: q_58 :: q_59 :: q_60 :: q_61 :: q_62 :: q_63 :: q_64 :: q_65 :: q_66 :: q_67 :: q_68 :: q_69 :: q_70 :: []).toArray, []⟩ w := by
  have HB := Lib.hid (Below.refl w.heap.size w)
  have HK := Lib.hid hk
  have HLA := Lib.hid hlast
  clear hk hlast
  conv => arg 2; whnf
  try go_wp2_with fail
  repeat' (first | (with_reducible refine wp_plan (id := 6) Grow [0,0,0,1,0,4,4,3,0] (.get 0 (.get 1 (.get 2 (.get 3 (.get 4 (.fork 5 (.act 6 (.act 7 (.get 8 .done))) (.act 6 (.act 5 (.act 7 (.get 8 .done)))))))))) (by kernel_rfl) (by kernel_rfl) Grow.refl Grow.trans ?_) | go_values | go_skip | go_guarded | go_step | go_upon | go_back)
  intro w_ hd_
  have hb_ := hd_.grow
  have HB_ := Lib.hid (HB.out.grow' hb_)
  clear HB
  have HB := HB_
  clear HB_
  have HI_ := Lib.hid (HI.out.grow hb_)
  clear HI
  have HI := HI_
  clear HI_
  clear hb_ hd_
  have hq := HI.out.key hl
  obtain ⟨b, off, d, rfl, hd, hd32, hbz, hcell⟩ := hq
  obtain rfl : d = last := by have := HLA.out; rw [hd] at this; exact Option.some.inj this
  rw [← HLD.out.1] at hcell
  have HC := Lib.hid hcell
  have HBZ := Lib.hid hbz
  clear hcell hd32 hd hbz
  repeat (first | (refine pl_calm rfl rfl (by first | exact wanted_none rfl | (go_simp; done) | rfl) (fun w_ => by first | (go_simp; rfl) | (go_simp; done) | rfl) (fun K hK => ?_); go_simp; refine hK _ _ ?_; clear hK K) | (refine pl_skip rfl (by first | (go_simp; done) | rfl) (fun K hK => ?_); go_simp; refine hK _ _ ?_; clear hK K) | (refine pl_skipa rfl (by first | (go_simp; done) | rfl) (fun K hK => ?_); go_simp; refine hK _ _ ?_; clear hK K))
  refine pl_loadm rfl (by decide) (by exact wanted_none rfl) rfl row_id HC.out HBZ.out (by first | rfl | (go_simp; done) | rfl) HLD.out.len (fun K hK => ?_)
  go_simp
  refine hK _ _ ?_
  clear hK K
  repeat (first | (refine pl_calm rfl rfl (by first | exact wanted_none rfl | (go_simp; done) | rfl) (fun w_ => by first | (go_simp; rfl) | (go_simp; done) | rfl) (fun K hK => ?_); go_simp; refine hK _ _ ?_; clear hK K) | (refine pl_skip rfl (by first | (go_simp; done) | rfl) (fun K hK => ?_); go_simp; refine hK _ _ ?_; clear hK K) | (refine pl_skipa rfl (by first | (go_simp; done) | rfl) (fun K hK => ?_); go_simp; refine hK _ _ ?_; clear hK K))
  refine pl_fork rfl (by exact wanted_none rfl) (fun K hK => ?_) ?_
  · skip
    go_wp2_with fail
    refine (first_any N _ hN2 hN16).mono ?_
    rintro e w1 ⟨rfl, hw1⟩
    rw [hw1, ← HK.out]
    go_wp2_with fail
    refine hK _ _ (fun _ => Grow.refl _) ?_
    clear hK K hw1
    clear w1
    refine pl_act rfl (by exact wanted_none rfl) (fun K hK => ?_)
    have HG := Lib.hid HB.out.size
    show wpList _ _ _ [⟨some _, .alloc _, _, _, _, _⟩] _ _
    go_wp2_with (first | (with_reducible refine wpl_alloc (o := ⟨some 11, _, _, _, _, _⟩) rfl rfl zero_id ?_))
    intro w2_ hb2_ hb_ hsz2_
    have HX := Lib.hid (at_mk hb2_ len_id)
    have HB_ := Lib.hid (HB.out.grow' hb_)
    generalize hg_ : w_.heap.size = g at HX HG ⊢
    go_wp2_with fail
    refine hK _ _ (fun _ => hb_) ?_
    clear hK K hb2_ hsz2_ hb_ HB hg_
    try clear w_
    rename World => w_
    have HB := HB_
    clear HB_
    refine pl_act rfl (by first | exact wanted_none rfl | (go_simp; done) | rfl) (fun K hK => ?_)
    show wpList _ _ _ [⟨none, .store _ _ _, _, _, _, _⟩] _ _
    go_wp2_with (first | (with_reducible refine wpl_storeb (o := ⟨none, .store _ _ _, _, _, _, _⟩) rfl rfl row_id HX.out.blk rfl rfl HX.out.len HLD.out.len HLD.out.one ?_))
    intro w2_ hb2_ hg2_ hsz2_
    have HB_ := Lib.hid (put_below HB.out HG.out hg2_)
    have HX_ := Lib.hid (at_mk hb2_ HLD.out.len)
    clear hb2_ hg2_ hsz2_ HB HX
    have HB := HB_
    have HX := HX_
    clear HB_ HX_
    try clear w_
    rename World => w_
    go_wp2_with fail
    refine hK _ _ (fun h => by cases h) ?_
    clear hK K
    repeat (first | (refine pl_calm rfl rfl (by first | exact wanted_none rfl | (go_simp; done) | rfl) (fun w_ => by first | (go_simp; rfl) | (go_simp; done) | rfl) (fun K hK => ?_); go_simp; refine hK _ _ ?_; clear hK K) | (refine pl_skip rfl (by first | (go_simp; done) | rfl) (fun K hK => ?_); go_simp; refine hK _ _ ?_; clear hK K) | (refine pl_skipa rfl (by first | (go_simp; done) | rfl) (fun K hK => ?_); go_simp; refine hK _ _ ?_; clear hK K))
    refine pl_done ?_
    exact HEX.out HB.out HX.out
  · skip
    refine pl_act rfl (by exact wanted_none rfl) (fun K hK => ?_)
    have HG := Lib.hid HB.out.size
    show wpList _ _ _ [⟨some _, .alloc _, _, _, _, _⟩] _ _
    go_wp2_with (first | (with_reducible refine wpl_alloc (o := ⟨some 11, _, _, _, _, _⟩) rfl rfl zero_id ?_))
    intro w2_ hb2_ hb_ hsz2_
    have HX := Lib.hid (at_mk hb2_ len_id)
    have HB_ := Lib.hid (HB.out.grow' hb_)
    generalize hg_ : w_.heap.size = g at HX HG ⊢
    go_wp2_with fail
    refine hK _ _ (fun _ => hb_) ?_
    clear hK K hb2_ hsz2_ hb_ HB hg_
    try clear w_
    rename World => w_
    have HB := HB_
    clear HB_
    refine pl_act rfl (by exact wanted_none rfl) (fun K hK => ?_)
    go_wp2_with fail
    refine (first_any N _ hN2 hN16).mono ?_
    rintro e w1 ⟨rfl, hw1⟩
    rw [hw1, ← HK.out]
    go_wp2_with fail
    refine hK _ _ (fun _ => Grow.refl _) ?_
    clear hK K hw1
    clear w1
    refine pl_act rfl (by first | exact wanted_none rfl | (go_simp; done) | rfl) (fun K hK => ?_)
    show wpList _ _ _ [⟨none, .store _ _ _, _, _, _, _⟩] _ _
    go_wp2_with (first | (with_reducible refine wpl_storeb (o := ⟨none, .store _ _ _, _, _, _, _⟩) rfl rfl row_id HX.out.blk rfl rfl HX.out.len HLD.out.len HLD.out.one ?_))
    intro w2_ hb2_ hg2_ hsz2_
    have HB_ := Lib.hid (put_below HB.out HG.out hg2_)
    have HX_ := Lib.hid (at_mk hb2_ HLD.out.len)
    clear hb2_ hg2_ hsz2_ HB HX
    have HB := HB_
    have HX := HX_
    clear HB_ HX_
    try clear w_
    rename World => w_
    go_wp2_with fail
    refine hK _ _ (fun h => by cases h) ?_
    clear hK K
    repeat (first | (refine pl_calm rfl rfl (by first | exact wanted_none rfl | (go_simp; done) | rfl) (fun w_ => by first | (go_simp; rfl) | (go_simp; done) | rfl) (fun K hK => ?_); go_simp; refine hK _ _ ?_; clear hK K) | (refine pl_skip rfl (by first | (go_simp; done) | rfl) (fun K hK => ?_); go_simp; refine hK _ _ ?_; clear hK K) | (refine pl_skipa rfl (by first | (go_simp; done) | rfl) (fun K hK => ?_); go_simp; refine hK _ _ ?_; clear hK K))
    refine pl_done ?_
    exact HEX.out HB.out HX.out
set_option maxRecDepth 100000 in
set_option maxHeartbeats 1000000 in
theorem cl8 {q_0 q_2 q_5 q_6 q_7 q_8 q_9 q_11 q_13 q_14 q_15 q_16 q_17 q_18 q_19 q_20 q_21 q_22 q_23 q_24 q_25 q_26 q_27 q_28 q_29 q_30 q_31 q_32 q_33 q_34 q_35 q_36 q_37 q_38 q_39 q_40 q_41 q_42 q_43 q_44 q_45 q_46 q_47 q_48 q_49 q_50 q_51 q_52 q_53 q_54 q_55 q_56 q_57 q_58 q_59 q_60 q_61 q_62 q_63 q_64 q_65 q_66 q_67 q_68 q_69 q_70 : Value} {Q0 : Exit → Act → World → Prop} {w : World} {A : Option Addr} {n c l N k i g4 : Nat} {ys : List Value} {ok : Bool} {phi : List UInt8 → Prop} (hl : l ≤ n) (hn : n ≤ c) 
    (HV : Hid (At w g4 23 32 ys))
    (HCALL : Hid (∀ w1, Below w.heap.size w w1 → Calls Tryd.prog 148 #[.agg ys.toArray, .int .i64 (i : Int), .int .i64 (k : Int), .slice A l c] w1 fun e w' => ∃ xs d', e = .returned (.tuple #[.agg xs.toArray, .bool ok]) ∧ Dig xs d' ∧ phi d' ∧ Below w1.heap.size w1 w'))
    (HEX : Hid (∀ {u_39 u_40 u_41 u_42 u_43 u_44 u_45 u_46 u_47 u_48 : Value} {w' : World} {g : Nat} {xs : List Value} {d' : List UInt8}, Below w.heap.size w w' → At w' g 23 32 xs → Dig xs d' → phi d' →
      Q0 .normal ⟨(q_0 :: (.int .i64 i) :: q_2 :: (.slice A n c) :: (.pointer (some ⟨g4, 0, none⟩)) :: q_5 :: q_6 :: q_7 :: q_8 :: q_9 :: (.int .i64 l) :: q_11 :: (.int .i64 k) :: (.pointer (some ⟨g, 0, none⟩)) :: (.bool ok) :: q_15 :: q_16 :: q_17 :: q_18 :: q_19 :: q_20 :: q_21 :: q_22 :: q_23 :: q_24 :: q_25 :: q_26 :: q_27 :: q_28 :: q_29 :: q_30 :: q_31 :: q_32 :: q_33 :: q_34 :: q_35 :: q_36 :: q_37 :: q_38 :: u_39 :: u_40 :: u_41 :: u_42 :: u_43 :: u_44 :: u_45 :: u_46 :: u_47 :: u_48 :: q_49 :: q_50 :: q_51 :: q_52 :: q_53 :: q_54 :: q_55 :: q_56 :: q_57 :: q_58 :: q_59 :: q_60 :: q_61 :: q_62 :: q_63 :: q_64 :: q_65 :: q_66 :: q_67 :: q_68 :: q_69 :: q_70 :: []).toArray, []⟩ w')) :
    Code.wp Tryd.prog (clReg 8) Q0 ⟨(q_0 :: (.int .i64 i) :: q_2 :: (.slice A n c) :: (.pointer (some ⟨g4, 0, none⟩)) :: q_5 :: q_6 :: q_7 :: q_8 :: q_9 :: (.int .i64 l) :: q_11 :: (.int .i64 k) :: q_13 :: q_14 :: q_15 :: q_16 :: q_17 :: q_18 :: q_19 :: q_20 :: q_21 :: q_22 :: q_23 :: q_24 :: q_25 :: q_26 :: q_27 :: q_28 :: q_29 :: q_30 :: q_31 :: q_32 :: q_33 :: q_34 :: q_35 :: q_36 :: q_37 :: q_38 :: q_39 :: q_40 :: q_41 :: q_42 :: q_43 :: q_44 :: q_45 :: q_46 :: q_47 :: q_48 :: q_49 :: q_50 :: q_51 :: q_52 :: q_53 :: q_54 :: q_55 :: q_56 :: q_57 :: q_58 :: q_59 :: q_60 :: q_61 :: q_62 :: q_63 :: q_64 :: q_65 :: q_66 :: q_67 :: q_68 :: q_69 :: q_70 :: []).toArray, []⟩ w := by
  have HB := Lib.hid (Below.refl w.heap.size w)
  have hlc : l ≤ c := by omega
  conv => arg 2; whnf
  try go_wp2_with fail
  repeat' (first | (with_reducible refine wp_plan (id := 8) Grow [1,0,0,0,0,0,3,0,0,0,4,3,0] (.get 0 (.get 1 (.get 2 (.get 3 (.get 4 (.get 5 (.fork 6 (.get 7 (.get 8 (.get 9 (.act 10 (.act 11 (.get 12 .done)))))) (.act 10 (.act 6 (.get 7 (.get 8 (.get 9 (.act 11 (.get 12 .done)))))))))))))) (by kernel_rfl) (by kernel_rfl) Grow.refl Grow.trans ?_) | go_values | go_skip | go_guarded | go_step | go_upon | go_back)
  intro w_ hd_
  have hb_ := hd_.grow
  have HB_ := Lib.hid (HB.out.grow' hb_)
  clear HB
  have HB := HB_
  clear HB_
  have HV_ := Lib.hid (HV.out.grow hb_)
  clear HV
  have HV := HV_
  clear HV_
  clear hb_ hd_
  repeat (first | (refine pl_calm rfl rfl (by first | exact wanted_none rfl | (go_simp; done) | rfl) (fun w_ => by first | (go_simp; rfl) | (go_simp; done) | rfl) (fun K hK => ?_); go_simp; refine hK _ _ ?_; clear hK K) | (refine pl_skip rfl (by first | (go_simp; done) | rfl) (fun K hK => ?_); go_simp; refine hK _ _ ?_; clear hK K) | (refine pl_skipa rfl (by first | (go_simp; done) | rfl) (fun K hK => ?_); go_simp; refine hK _ _ ?_; clear hK K) | (refine pl_loadb rfl rfl (by first | exact wanted_none rfl | (go_simp; done) | rfl) rfl row_id HV.out.blk (by first | rfl | (go_simp; done) | rfl) HV.out.len (fun K hK => ?_); go_simp; refine hK _ _ ?_; clear hK K) | (refine pl_loadbnow rfl rfl (by first | exact wanted_none rfl | (go_simp; done) | rfl) rfl row_id HV.out.blk (by first | rfl | (go_simp; done) | rfl) HV.out.len (fun K hK => ?_); go_simp; refine hK _ _ ?_; clear hK K))
  refine pl_fork rfl (by exact wanted_none rfl) (fun K hK => ?_) ?_
  · skip
    go_wp2_with fail
    refine (HCALL.out w_ HB.out).mono ?_
    rintro e w1 ⟨xs, d', rfl, hx, hphi, hb_⟩
    have HDX := Lib.hid hx
    have HPHI := Lib.hid hphi
    have HB_ := Lib.hid (HB.out.grow' hb_)
    go_wp2_with fail
    refine hK _ _ (fun _ => hb_) ?_
    clear hK K hb_ HB hx hphi
    try clear w_
    rename World => w_
    have HB := HB_
    clear HB_
    repeat (first | (refine pl_calm rfl rfl (by first | exact wanted_none rfl | (go_simp; done) | rfl) (fun w_ => by first | (go_simp; rfl) | (go_simp; done) | rfl) (fun K hK => ?_); go_simp; refine hK _ _ ?_; clear hK K) | (refine pl_skip rfl (by first | (go_simp; done) | rfl) (fun K hK => ?_); go_simp; refine hK _ _ ?_; clear hK K) | (refine pl_skipa rfl (by first | (go_simp; done) | rfl) (fun K hK => ?_); go_simp; refine hK _ _ ?_; clear hK K))
    refine pl_act rfl (by exact wanted_none rfl) (fun K hK => ?_)
    have HG := Lib.hid HB.out.size
    show wpList _ _ _ [⟨some _, .alloc _, _, _, _, _⟩] _ _
    go_wp2_with (first | (with_reducible refine wpl_alloc (o := ⟨some 13, _, _, _, _, _⟩) rfl rfl zero_id ?_))
    intro w2_ hb2_ hb_ hsz2_
    have HX := Lib.hid (at_mk hb2_ len_id)
    have HB_ := Lib.hid (HB.out.grow' hb_)
    generalize hg_ : w_.heap.size = g at HX HG ⊢
    go_wp2_with fail
    refine hK _ _ (fun _ => hb_) ?_
    clear hK K hb2_ hsz2_ hb_ HB hg_
    try clear w_
    rename World => w_
    have HB := HB_
    clear HB_
    refine pl_act rfl (by first | exact wanted_none rfl | (go_simp; done) | rfl) (fun K hK => ?_)
    show wpList _ _ _ [⟨none, .store _ _ _, _, _, _, _⟩] _ _
    go_wp2_with (first | (with_reducible refine wpl_storeb (o := ⟨none, .store _ _ _, _, _, _, _⟩) rfl rfl row_id HX.out.blk rfl rfl HX.out.len HDX.out.len HDX.out.one ?_))
    intro w2_ hb2_ hg2_ hsz2_
    have HB_ := Lib.hid (put_below HB.out HG.out hg2_)
    have HX_ := Lib.hid (at_mk hb2_ HDX.out.len)
    clear hb2_ hg2_ hsz2_ HB HX
    have HB := HB_
    have HX := HX_
    clear HB_ HX_
    try clear w_
    rename World => w_
    go_wp2_with fail
    refine hK _ _ (fun h => by cases h) ?_
    clear hK K
    repeat (first | (refine pl_calm rfl rfl (by first | exact wanted_none rfl | (go_simp; done) | rfl) (fun w_ => by first | (go_simp; rfl) | (go_simp; done) | rfl) (fun K hK => ?_); go_simp; refine hK _ _ ?_; clear hK K) | (refine pl_skip rfl (by first | (go_simp; done) | rfl) (fun K hK => ?_); go_simp; refine hK _ _ ?_; clear hK K) | (refine pl_skipa rfl (by first | (go_simp; done) | rfl) (fun K hK => ?_); go_simp; refine hK _ _ ?_; clear hK K))
    refine pl_done ?_
    exact HEX.out HB.out HX.out HDX.out HPHI.out
  · skip
    refine pl_act rfl (by exact wanted_none rfl) (fun K hK => ?_)
    have HG := Lib.hid HB.out.size
    show wpList _ _ _ [⟨some _, .alloc _, _, _, _, _⟩] _ _
    go_wp2_with (first | (with_reducible refine wpl_alloc (o := ⟨some 13, _, _, _, _, _⟩) rfl rfl zero_id ?_))
    intro w2_ hb2_ hb_ hsz2_
    have HX := Lib.hid (at_mk hb2_ len_id)
    have HB_ := Lib.hid (HB.out.grow' hb_)
    generalize hg_ : w_.heap.size = g at HX HG ⊢
    go_wp2_with fail
    refine hK _ _ (fun _ => hb_) ?_
    clear hK K hb2_ hsz2_ hb_ HB hg_
    try clear w_
    rename World => w_
    have HB := HB_
    clear HB_
    refine pl_act rfl (by exact wanted_none rfl) (fun K hK => ?_)
    go_wp2_with fail
    refine (HCALL.out w_ HB.out).mono ?_
    rintro e w1 ⟨xs, d', rfl, hx, hphi, hb_⟩
    have HDX := Lib.hid hx
    have HPHI := Lib.hid hphi
    have HB_ := Lib.hid (HB.out.grow' hb_)
    have HX_ := Lib.hid (HX.out.grow hb_)
    clear HX
    have HX := HX_
    clear HX_
    go_wp2_with fail
    refine hK _ _ (fun _ => hb_) ?_
    clear hK K hb_ HB hx hphi
    try clear w_
    rename World => w_
    have HB := HB_
    clear HB_
    repeat (first | (refine pl_calm rfl rfl (by first | exact wanted_none rfl | (go_simp; done) | rfl) (fun w_ => by first | (go_simp; rfl) | (go_simp; done) | rfl) (fun K hK => ?_); go_simp; refine hK _ _ ?_; clear hK K) | (refine pl_skip rfl (by first | (go_simp; done) | rfl) (fun K hK => ?_); go_simp; refine hK _ _ ?_; clear hK K) | (refine pl_skipa rfl (by first | (go_simp; done) | rfl) (fun K hK => ?_); go_simp; refine hK _ _ ?_; clear hK K))
    refine pl_act rfl (by first | exact wanted_none rfl | (go_simp; done) | rfl) (fun K hK => ?_)
    show wpList _ _ _ [⟨none, .store _ _ _, _, _, _, _⟩] _ _
    go_wp2_with (first | (with_reducible refine wpl_storeb (o := ⟨none, .store _ _ _, _, _, _, _⟩) rfl rfl row_id HX.out.blk rfl rfl HX.out.len HDX.out.len HDX.out.one ?_))
    intro w2_ hb2_ hg2_ hsz2_
    have HB_ := Lib.hid (put_below HB.out HG.out hg2_)
    have HX_ := Lib.hid (at_mk hb2_ HDX.out.len)
    clear hb2_ hg2_ hsz2_ HB HX
    have HB := HB_
    have HX := HX_
    clear HB_ HX_
    try clear w_
    rename World => w_
    go_wp2_with fail
    refine hK _ _ (fun h => by cases h) ?_
    clear hK K
    repeat (first | (refine pl_calm rfl rfl (by first | exact wanted_none rfl | (go_simp; done) | rfl) (fun w_ => by first | (go_simp; rfl) | (go_simp; done) | rfl) (fun K hK => ?_); go_simp; refine hK _ _ ?_; clear hK K) | (refine pl_skip rfl (by first | (go_simp; done) | rfl) (fun K hK => ?_); go_simp; refine hK _ _ ?_; clear hK K) | (refine pl_skipa rfl (by first | (go_simp; done) | rfl) (fun K hK => ?_); go_simp; refine hK _ _ ?_; clear hK K))
    refine pl_done ?_
    exact HEX.out HB.out HX.out HDX.out HPHI.out
set_option maxRecDepth 100000 in
set_option maxHeartbeats 1000000 in
theorem cl10 {q_0 q_5 q_6 q_7 q_8 q_9 q_11 q_13 q_14 q_15 q_16 q_17 q_18 q_19 q_20 q_21 q_22 q_23 q_24 q_25 q_26 q_27 q_28 q_29 q_30 q_31 q_32 q_33 q_34 q_35 q_36 q_37 q_38 q_39 q_40 q_41 q_42 q_43 q_44 q_45 q_46 q_47 q_48 q_49 q_50 q_51 q_52 q_53 q_54 q_55 q_56 q_57 q_58 q_59 q_60 q_61 q_62 q_63 q_64 q_65 q_66 q_67 q_68 q_69 q_70 : Value} {Q0 : Exit → Act → World → Prop} {w : World} {A : Option Addr} {n c l N k i g4 : Nat} {ys : List Value} {ok : Bool} {phi : List UInt8 → Prop} (hl : l ≤ n) (hn : n ≤ c) (hik : k ≤ i) (hiN : i < N) (hN : N ≤ 16777216)
    (HV : Hid (At w g4 23 32 ys))
    (HCALL : Hid (∀ w1, Below w.heap.size w w1 → Calls Tryd.prog 148 #[.agg ys.toArray, .int .i64 ((i : Int) - (k : Int)), .int .i64 ((N : Int) - (k : Int)), .slice A l c] w1 fun e w' => ∃ xs d', e = .returned (.tuple #[.agg xs.toArray, .bool ok]) ∧ Dig xs d' ∧ phi d' ∧ Below w1.heap.size w1 w'))
    (HEX : Hid (∀ {u_53 u_54 u_55 u_56 u_57 u_58 u_59 u_60 u_61 u_62 u_63 u_64 u_65 u_66 : Value} {w' : World} {g : Nat} {xs : List Value} {d' : List UInt8}, Below w.heap.size w w' → At w' g 23 32 xs → Dig xs d' → phi d' →
      Q0 .normal ⟨(q_0 :: (.int .i64 i) :: (.int .i64 N) :: (.slice A n c) :: (.pointer (some ⟨g4, 0, none⟩)) :: q_5 :: q_6 :: q_7 :: q_8 :: q_9 :: (.int .i64 l) :: q_11 :: (.int .i64 k) :: q_13 :: q_14 :: (.pointer (some ⟨g, 0, none⟩)) :: (.bool ok) :: q_17 :: q_18 :: q_19 :: q_20 :: q_21 :: q_22 :: q_23 :: q_24 :: q_25 :: q_26 :: q_27 :: q_28 :: q_29 :: q_30 :: q_31 :: q_32 :: q_33 :: q_34 :: q_35 :: q_36 :: q_37 :: q_38 :: q_39 :: q_40 :: q_41 :: q_42 :: q_43 :: q_44 :: q_45 :: q_46 :: q_47 :: q_48 :: q_49 :: q_50 :: q_51 :: q_52 :: u_53 :: u_54 :: u_55 :: u_56 :: u_57 :: u_58 :: u_59 :: u_60 :: u_61 :: u_62 :: u_63 :: u_64 :: u_65 :: u_66 :: q_67 :: q_68 :: q_69 :: q_70 :: []).toArray, []⟩ w')) :
    Code.wp Tryd.prog (clReg 10) Q0 ⟨(q_0 :: (.int .i64 i) :: (.int .i64 N) :: (.slice A n c) :: (.pointer (some ⟨g4, 0, none⟩)) :: q_5 :: q_6 :: q_7 :: q_8 :: q_9 :: (.int .i64 l) :: q_11 :: (.int .i64 k) :: q_13 :: q_14 :: q_15 :: q_16 :: q_17 :: q_18 :: q_19 :: q_20 :: q_21 :: q_22 :: q_23 :: q_24 :: q_25 :: q_26 :: q_27 :: q_28 :: q_29 :: q_30 :: q_31 :: q_32 :: q_33 :: q_34 :: q_35 :: q_36 :: q_37 :: q_38 :: q_39 :: q_40 :: q_41 :: q_42 :: q_43 :: q_44 :: q_45 :: q_46 :: q_47 :: q_48 :: q_49 :: q_50 :: q_51 :: q_52 :: q_53 :: q_54 :: q_55 :: q_56 :: q_57 :: q_58 :: q_59 :: q_60 :: q_61 :: q_62 :: q_63 :: q_64 :: q_65 :: q_66 :: q_67 :: q_68 :: q_69 :: q_70 :: []).toArray, []⟩ w := by
  have HB := Lib.hid (Below.refl w.heap.size w)
  have hlc : l ≤ c := by omega
  conv => arg 2; whnf
  try go_wp2_with fail
  repeat' (first | (with_reducible refine wp_plan (id := 10) Grow [1,0,0,0,0,0,0,0,0,0,3,0,0,0,4,3,0] (.get 0 (.get 1 (.get 2 (.get 3 (.get 4 (.get 5 (.get 6 (.get 7 (.get 8 (.get 9 (.fork 10 (.get 11 (.get 12 (.get 13 (.act 14 (.act 15 (.get 16 .done)))))) (.act 14 (.act 10 (.get 11 (.get 12 (.get 13 (.act 15 (.get 16 .done)))))))))))))))))) (by kernel_rfl) (by kernel_rfl) Grow.refl Grow.trans ?_) | go_values | go_skip | go_guarded | go_step | go_upon | go_back)
  intro w_ hd_
  have hb_ := hd_.grow
  have HB_ := Lib.hid (HB.out.grow' hb_)
  clear HB
  have HB := HB_
  clear HB_
  have HV_ := Lib.hid (HV.out.grow hb_)
  clear HV
  have HV := HV_
  clear HV_
  clear hb_ hd_
  repeat (first | (refine pl_calm rfl rfl (by first | exact wanted_none rfl | (go_simp; done) | rfl) (fun w_ => by first | (go_simp; rfl) | (go_simp; done) | rfl) (fun K hK => ?_); go_simp; refine hK _ _ ?_; clear hK K) | (refine pl_skip rfl (by first | (go_simp; done) | rfl) (fun K hK => ?_); go_simp; refine hK _ _ ?_; clear hK K) | (refine pl_skipa rfl (by first | (go_simp; done) | rfl) (fun K hK => ?_); go_simp; refine hK _ _ ?_; clear hK K) | (refine pl_loadb rfl rfl (by first | exact wanted_none rfl | (go_simp; done) | rfl) rfl row_id HV.out.blk (by first | rfl | (go_simp; done) | rfl) HV.out.len (fun K hK => ?_); go_simp; refine hK _ _ ?_; clear hK K) | (refine pl_loadbnow rfl rfl (by first | exact wanted_none rfl | (go_simp; done) | rfl) rfl row_id HV.out.blk (by first | rfl | (go_simp; done) | rfl) HV.out.len (fun K hK => ?_); go_simp; refine hK _ _ ?_; clear hK K))
  refine pl_fork rfl (by exact wanted_none rfl) (fun K hK => ?_) ?_
  · skip
    go_wp2_with fail
    refine (HCALL.out w_ HB.out).mono ?_
    rintro e w1 ⟨xs, d', rfl, hx, hphi, hb_⟩
    have HDX := Lib.hid hx
    have HPHI := Lib.hid hphi
    have HB_ := Lib.hid (HB.out.grow' hb_)
    go_wp2_with fail
    refine hK _ _ (fun _ => hb_) ?_
    clear hK K hb_ HB hx hphi
    try clear w_
    rename World => w_
    have HB := HB_
    clear HB_
    repeat (first | (refine pl_calm rfl rfl (by first | exact wanted_none rfl | (go_simp; done) | rfl) (fun w_ => by first | (go_simp; rfl) | (go_simp; done) | rfl) (fun K hK => ?_); go_simp; refine hK _ _ ?_; clear hK K) | (refine pl_skip rfl (by first | (go_simp; done) | rfl) (fun K hK => ?_); go_simp; refine hK _ _ ?_; clear hK K) | (refine pl_skipa rfl (by first | (go_simp; done) | rfl) (fun K hK => ?_); go_simp; refine hK _ _ ?_; clear hK K))
    refine pl_act rfl (by exact wanted_none rfl) (fun K hK => ?_)
    have HG := Lib.hid HB.out.size
    show wpList _ _ _ [⟨some _, .alloc _, _, _, _, _⟩] _ _
    go_wp2_with (first | (with_reducible refine wpl_alloc (o := ⟨some 15, _, _, _, _, _⟩) rfl rfl zero_id ?_))
    intro w2_ hb2_ hb_ hsz2_
    have HX := Lib.hid (at_mk hb2_ len_id)
    have HB_ := Lib.hid (HB.out.grow' hb_)
    generalize hg_ : w_.heap.size = g at HX HG ⊢
    go_wp2_with fail
    refine hK _ _ (fun _ => hb_) ?_
    clear hK K hb2_ hsz2_ hb_ HB hg_
    try clear w_
    rename World => w_
    have HB := HB_
    clear HB_
    refine pl_act rfl (by first | exact wanted_none rfl | (go_simp; done) | rfl) (fun K hK => ?_)
    show wpList _ _ _ [⟨none, .store _ _ _, _, _, _, _⟩] _ _
    go_wp2_with (first | (with_reducible refine wpl_storeb (o := ⟨none, .store _ _ _, _, _, _, _⟩) rfl rfl row_id HX.out.blk rfl rfl HX.out.len HDX.out.len HDX.out.one ?_))
    intro w2_ hb2_ hg2_ hsz2_
    have HB_ := Lib.hid (put_below HB.out HG.out hg2_)
    have HX_ := Lib.hid (at_mk hb2_ HDX.out.len)
    clear hb2_ hg2_ hsz2_ HB HX
    have HB := HB_
    have HX := HX_
    clear HB_ HX_
    try clear w_
    rename World => w_
    go_wp2_with fail
    refine hK _ _ (fun h => by cases h) ?_
    clear hK K
    repeat (first | (refine pl_calm rfl rfl (by first | exact wanted_none rfl | (go_simp; done) | rfl) (fun w_ => by first | (go_simp; rfl) | (go_simp; done) | rfl) (fun K hK => ?_); go_simp; refine hK _ _ ?_; clear hK K) | (refine pl_skip rfl (by first | (go_simp; done) | rfl) (fun K hK => ?_); go_simp; refine hK _ _ ?_; clear hK K) | (refine pl_skipa rfl (by first | (go_simp; done) | rfl) (fun K hK => ?_); go_simp; refine hK _ _ ?_; clear hK K))
    refine pl_done ?_
    exact HEX.out HB.out HX.out HDX.out HPHI.out
  · skip
    refine pl_act rfl (by exact wanted_none rfl) (fun K hK => ?_)
    have HG := Lib.hid HB.out.size
    show wpList _ _ _ [⟨some _, .alloc _, _, _, _, _⟩] _ _
    go_wp2_with (first | (with_reducible refine wpl_alloc (o := ⟨some 15, _, _, _, _, _⟩) rfl rfl zero_id ?_))
    intro w2_ hb2_ hb_ hsz2_
    have HX := Lib.hid (at_mk hb2_ len_id)
    have HB_ := Lib.hid (HB.out.grow' hb_)
    generalize hg_ : w_.heap.size = g at HX HG ⊢
    go_wp2_with fail
    refine hK _ _ (fun _ => hb_) ?_
    clear hK K hb2_ hsz2_ hb_ HB hg_
    try clear w_
    rename World => w_
    have HB := HB_
    clear HB_
    refine pl_act rfl (by exact wanted_none rfl) (fun K hK => ?_)
    go_wp2_with fail
    refine (HCALL.out w_ HB.out).mono ?_
    rintro e w1 ⟨xs, d', rfl, hx, hphi, hb_⟩
    have HDX := Lib.hid hx
    have HPHI := Lib.hid hphi
    have HB_ := Lib.hid (HB.out.grow' hb_)
    have HX_ := Lib.hid (HX.out.grow hb_)
    clear HX
    have HX := HX_
    clear HX_
    go_wp2_with fail
    refine hK _ _ (fun _ => hb_) ?_
    clear hK K hb_ HB hx hphi
    try clear w_
    rename World => w_
    have HB := HB_
    clear HB_
    repeat (first | (refine pl_calm rfl rfl (by first | exact wanted_none rfl | (go_simp; done) | rfl) (fun w_ => by first | (go_simp; rfl) | (go_simp; done) | rfl) (fun K hK => ?_); go_simp; refine hK _ _ ?_; clear hK K) | (refine pl_skip rfl (by first | (go_simp; done) | rfl) (fun K hK => ?_); go_simp; refine hK _ _ ?_; clear hK K) | (refine pl_skipa rfl (by first | (go_simp; done) | rfl) (fun K hK => ?_); go_simp; refine hK _ _ ?_; clear hK K))
    refine pl_act rfl (by first | exact wanted_none rfl | (go_simp; done) | rfl) (fun K hK => ?_)
    show wpList _ _ _ [⟨none, .store _ _ _, _, _, _, _⟩] _ _
    go_wp2_with (first | (with_reducible refine wpl_storeb (o := ⟨none, .store _ _ _, _, _, _, _⟩) rfl rfl row_id HX.out.blk rfl rfl HX.out.len HDX.out.len HDX.out.one ?_))
    intro w2_ hb2_ hg2_ hsz2_
    have HB_ := Lib.hid (put_below HB.out HG.out hg2_)
    have HX_ := Lib.hid (at_mk hb2_ HDX.out.len)
    clear hb2_ hg2_ hsz2_ HB HX
    have HB := HB_
    have HX := HX_
    clear HB_ HX_
    try clear w_
    rename World => w_
    go_wp2_with fail
    refine hK _ _ (fun h => by cases h) ?_
    clear hK K
    repeat (first | (refine pl_calm rfl rfl (by first | exact wanted_none rfl | (go_simp; done) | rfl) (fun w_ => by first | (go_simp; rfl) | (go_simp; done) | rfl) (fun K hK => ?_); go_simp; refine hK _ _ ?_; clear hK K) | (refine pl_skip rfl (by first | (go_simp; done) | rfl) (fun K hK => ?_); go_simp; refine hK _ _ ?_; clear hK K) | (refine pl_skipa rfl (by first | (go_simp; done) | rfl) (fun K hK => ?_); go_simp; refine hK _ _ ?_; clear hK K))
    refine pl_done ?_
    exact HEX.out HB.out HX.out HDX.out HPHI.out
end Go.Proofs.YtphmefhnffoafaaDoor

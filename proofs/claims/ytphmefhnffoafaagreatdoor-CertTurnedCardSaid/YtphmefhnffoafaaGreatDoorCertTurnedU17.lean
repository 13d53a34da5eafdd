/- Layer 5: climbing, region by region. -/
import Derived.Test.YtphmefhnffoafaaGreatDoorCertTurnedU16
set_option linter.unusedSimpArgs false
namespace Go.Proofs.YtphmefhnffoafaaGreatDoor
open Go.RowKit Go.Shelf
set_option linter.unusedVariables false
noncomputable def clReg (k : Nat) : Code := (((Tryz.f88.body.map regsOf).getD []).find? (fun e => e.1 == k) |>.map (·.2)).getD .skip
attribute [local irreducible] nodeB leafB
set_option maxRecDepth 100000 in
set_option maxHeartbeats 1000000 in
theorem cl6 {o0 o1 o4 o5 o6 o7 o8 o9 o11 o12 o13 o14 o15 o16 o17 o18 o19 o20 o21 o22 o23 o24 o25 o26 o27 o28 o29 o30 o31 o32 o33 o34 o35 o36 o37 o38 o39 o40 o41 o42 o43 o44 o45 o46 o47 o48 o49 o50 o51 o52 o53 o54 o55 o56 o57 o58 o59 o60 o61 o62 o63 o64 o65 o66 o67 o68 o69 o70 : Value} {Q0 : Exit → Act → World → Prop} {w : World} {A : Option Addr} {n c l N k : Nat} {ds : List (List UInt8)} {last : List UInt8} {ls : List Value} (hN2 : 2 ≤ N) (hN16 : N ≤ 16777216) (hk : k = halfN N) (hl : l < n) (hlast : ds[l]? = some last)
  (HLD : Hid (Dig ls last)) (HI : Hid (Ids w A n c ds))
  (HEX : Hid (∀ {u_30 u_31 u_32 u_33 u_34 u_35 : Value} {w' : World} {g : Nat}, Below w.heap.size w w' → At w' g 24 32 ls →
   Q0 .normal ⟨(o0 :: o1 :: (.int .i64 N) :: (.slice A n c) :: o4 :: o5 :: o6 :: o7 :: o8 :: o9 :: (.int .i64 l) :: (.pointer (some ⟨g, 0, none⟩)) :: (.int .i64 k) :: o13 :: o14 :: o15 :: o16 :: o17 :: o18 :: o19 :: o20 :: o21 :: o22 :: o23 :: o24 :: o25 :: o26 :: o27 :: o28 :: o29 :: u_30 :: u_31 :: u_32 :: u_33 :: u_34 :: u_35 :: o36 :: o37 :: o38 :: o39 :: o40 :: o41 :: o42 :: o43 :: o44 :: o45 :: o46 :: o47 :: o48 :: o49 :: o50 :: o51 :: o52 :: o53 :: o54 :: o55 :: o56 :: o57 :: o58 :: o59 :: o60 :: o61 :: o62 :: o63 :: o64 :: o65 :: o66 :: o67 :: o68 :: o69 :: o70 :: []).toArray, []⟩ w')) :
  Code.wp Tryz.prog (clReg 6) Q0 ⟨(o0 :: o1 :: (.int .i64 N) :: (.slice A n c) :: o4 :: o5 :: o6 :: o7 :: o8 :: o9 :: (.int .i64 l) :: o11 :: o12 :: o13 :: o14 :: o15 :: o16 :: o17 :: o18 :: o19 :: o20 :: o21 :: o22 :: o23 :: o24 :: o25 :: o26 :: o27 :: o28 :: o29 :: o30 :: o31 :: o32 :: o33 :: o34 :: o35 :: o36 :: o37 :: o38 :: o39 :: o40 :: o41 :: o42 :: o43 :: o44 :: o45 :: o46 :: o47 :: o48 :: o49 :: o50 :: o51 :: o52 :: o53 :: o54 :: o55 :: o56 :: o57 :: o58 :: o59 :: o60 :: o61 :: o62 :: o63 :: o64 :: o65 :: o66 :: o67 :: o68 :: o69 :: o70 :: []).toArray, []⟩ w := by
 have HB := kp (Below.refl w.heap.size w)
 have HK := kp hk
 have HLA := kp hlast
 clear hk hlast
 conv => arg 2; whnf
 try go_wp2_with fail
 repeat' (first | (with_reducible refine wp_plan (id := 6) Grow [0,0,0,1,0,4,4,3,0] (.get 0 (.get 1 (.get 2 (.get 3 (.get 4 (.fork 5 (.act 6 (.act 7 (.get 8 .done))) (.act 6 (.act 5 (.act 7 (.get 8 .done)))))))))) (by kernel_rfl) (by kernel_rfl) Grow.refl Grow.trans ?_) | go_values | go_skip | go_guarded | go_step | go_upon | go_back)
 intro w_ hd_
 have hb_ := hd_.grow
 replace HB := kp (HB.out.grow' hb_)
 replace HI := kp (HI.out.grow hb_)
 clear hb_ hd_
 have hq := HI.out.key hl
 obtain ⟨b, off, d, rfl, hd, hd32, hbz, hcell⟩ := hq
 obtain rfl : d = last := by have := HLA.out; rw [hd] at this; exact Option.some.inj this
 rw [← HLD.out.1] at hcell
 have HC := kp hcell
 have HBZ := kp hbz
 clear hcell hd32 hd hbz
 repeat ((first | refine pl_calm rfl rfl (by first | exact wanted_none rfl | (go_simp; done) | rfl) (fun w_ => by first | (go_simp; rfl) | (go_simp; done) | rfl) (fun K hK => ?_) | refine pl_skip rfl (by first | (go_simp; done) | rfl) (fun K hK => ?_) | refine pl_skipa rfl (by first | (go_simp; done) | rfl) (fun K hK => ?_)); go_simp; refine hK _ _ ?_; clear hK K)
 refine pl_loadm rfl (by decide) (by exact wanted_none rfl) rfl row_id HC.out HBZ.out (by first | rfl | (go_simp; done) | rfl) HLD.out.len (fun K hK => ?_)
 go_simp
 refine hK _ _ ?_
 clear hK K
 repeat ((first | refine pl_calm rfl rfl (by first | exact wanted_none rfl | (go_simp; done) | rfl) (fun w_ => by first | (go_simp; rfl) | (go_simp; done) | rfl) (fun K hK => ?_) | refine pl_skip rfl (by first | (go_simp; done) | rfl) (fun K hK => ?_) | refine pl_skipa rfl (by first | (go_simp; done) | rfl) (fun K hK => ?_)); go_simp; refine hK _ _ ?_; clear hK K)
 refine pl_fork rfl (by exact wanted_none rfl) (fun K hK => ?_) ?_
 ·skip
  go_wp2_with fail
  refine (first_any N _ hN2 hN16).mono ?_
  rintro e w1 ⟨rfl, hw1⟩
  rw [hw1, ← HK.out]
  go_wp2_with fail
  refine hK _ _ (fun _ => Grow.refl _) ?_
  clear hK K hw1
  clear w1
  refine pl_act rfl (by exact wanted_none rfl) (fun K hK => ?_)
  have HG := kp HB.out.size
  show wpList _ _ _ [⟨some _, .alloc _, _, _, _, _⟩] _ _
  go_wp2_with (first | (with_reducible refine wpl_alloc (o := ⟨some 11, _, _, _, _, _⟩) rfl rfl zero_id ?_))
  intro w2_ hb2_ hb_ hsz2_
  have HX := kp (at_mk hb2_ len_id)
  have HB_ := kp (HB.out.grow' hb_)
  generalize hg_ : w_.heap.size = g at HX HG ⊢
  go_wp2_with fail
  refine hK _ _ (fun _ => hb_) ?_
  clear hK K hb2_ hsz2_ hb_ HB hg_
  try clear w_
  rename World => w_
  have HB := HB_
  clear HB_
  refine pl_act rfl (by first | exact wanted_none rfl | (go_simp; done) | rfl) (fun K hK => ?_)
  show wpList _ _ _ [⟨none, .store _ _ _, _, _, _, _⟩] _ _
  go_wp2_with (first | (with_reducible refine wpl_storeb (o := ⟨none, .store _ _ _, _, _, _, _⟩) rfl rfl row_id HX.out.blk rfl rfl HX.out.len HLD.out.len HLD.out.one ?_))
  intro w2_ hb2_ hg2_ hsz2_
  replace HB := kp (put_below HB.out HG.out hg2_)
  replace HX := kp (at_mk hb2_ HLD.out.len)
  clear hb2_ hg2_ hsz2_
  try clear w_
  rename World => w_
  go_wp2_with fail
  refine hK _ _ (fun h => by cases h) ?_
  clear hK K
  repeat ((first | refine pl_calm rfl rfl (by first | exact wanted_none rfl | (go_simp; done) | rfl) (fun w_ => by first | (go_simp; rfl) | (go_simp; done) | rfl) (fun K hK => ?_) | refine pl_skip rfl (by first | (go_simp; done) | rfl) (fun K hK => ?_) | refine pl_skipa rfl (by first | (go_simp; done) | rfl) (fun K hK => ?_)); go_simp; refine hK _ _ ?_; clear hK K)
  refine pl_done ?_
  exact HEX.out HB.out HX.out
 ·skip
  refine pl_act rfl (by exact wanted_none rfl) (fun K hK => ?_)
  have HG := kp HB.out.size
  show wpList _ _ _ [⟨some _, .alloc _, _, _, _, _⟩] _ _
  go_wp2_with (first | (with_reducible refine wpl_alloc (o := ⟨some 11, _, _, _, _, _⟩) rfl rfl zero_id ?_))
  intro w2_ hb2_ hb_ hsz2_
  have HX := kp (at_mk hb2_ len_id)
  have HB_ := kp (HB.out.grow' hb_)
  generalize hg_ : w_.heap.size = g at HX HG ⊢
  go_wp2_with fail
  refine hK _ _ (fun _ => hb_) ?_
  clear hK K hb2_ hsz2_ hb_ HB hg_
  try clear w_
  rename World => w_
  have HB := HB_
  clear HB_
  refine pl_act rfl (by exact wanted_none rfl) (fun K hK => ?_)
  go_wp2_with fail
  refine (first_any N _ hN2 hN16).mono ?_
  rintro e w1 ⟨rfl, hw1⟩
  rw [hw1, ← HK.out]
  go_wp2_with fail
  refine hK _ _ (fun _ => Grow.refl _) ?_
  clear hK K hw1
  clear w1
  refine pl_act rfl (by first | exact wanted_none rfl | (go_simp; done) | rfl) (fun K hK => ?_)
  show wpList _ _ _ [⟨none, .store _ _ _, _, _, _, _⟩] _ _
  go_wp2_with (first | (with_reducible refine wpl_storeb (o := ⟨none, .store _ _ _, _, _, _, _⟩) rfl rfl row_id HX.out.blk rfl rfl HX.out.len HLD.out.len HLD.out.one ?_))
  intro w2_ hb2_ hg2_ hsz2_
  replace HB := kp (put_below HB.out HG.out hg2_)
  replace HX := kp (at_mk hb2_ HLD.out.len)
  clear hb2_ hg2_ hsz2_
  try clear w_
  rename World => w_
  go_wp2_with fail
  refine hK _ _ (fun h => by cases h) ?_
  clear hK K
  repeat ((first | refine pl_calm rfl rfl (by first | exact wanted_none rfl | (go_simp; done) | rfl) (fun w_ => by first | (go_simp; rfl) | (go_simp; done) | rfl) (fun K hK => ?_) | refine pl_skip rfl (by first | (go_simp; done) | rfl) (fun K hK => ?_) | refine pl_skipa rfl (by first | (go_simp; done) | rfl) (fun K hK => ?_)); go_simp; refine hK _ _ ?_; clear hK K)
  refine pl_done ?_
  exact HEX.out HB.out HX.out
set_option maxRecDepth 100000 in
set_option maxHeartbeats 1000000 in
theorem cl8 {o0 o2 o5 o6 o7 o8 o9 o11 o13 o14 o15 o16 o17 o18 o19 o20 o21 o22 o23 o24 o25 o26 o27 o28 o29 o30 o31 o32 o33 o34 o35 o36 o37 o38 o39 o40 o41 o42 o43 o44 o45 o46 o47 o48 o49 o50 o51 o52 o53 o54 o55 o56 o57 o58 o59 o60 o61 o62 o63 o64 o65 o66 o67 o68 o69 o70 : Value} {Q0 : Exit → Act → World → Prop} {w : World} {A : Option Addr} {n c l N k i g4 : Nat} {ys : List Value} {ok : Bool} {phi : List UInt8 → Prop} (hl : l ≤ n) (hn : n ≤ c) 
  (HV : Hid (At w g4 24 32 ys))
  (HCALL : Hid (∀ w1, Below w.heap.size w w1 → Calls Tryz.prog 88 #[.agg ys.toArray, .int .i64 (i : Int), .int .i64 (k : Int), .slice A l c] w1 fun e w' => ∃ xs d', e = .returned (.tuple #[.agg xs.toArray, .bool ok]) ∧ Dig xs d' ∧ phi d' ∧ Below w1.heap.size w1 w'))
  (HEX : Hid (∀ {u_39 u_40 u_41 u_42 u_43 u_44 u_45 u_46 u_47 u_48 : Value} {w' : World} {g : Nat} {xs : List Value} {d' : List UInt8}, Below w.heap.size w w' → At w' g 24 32 xs → Dig xs d' → phi d' →
   Q0 .normal ⟨(o0 :: (.int .i64 i) :: o2 :: (.slice A n c) :: (.pointer (some ⟨g4, 0, none⟩)) :: o5 :: o6 :: o7 :: o8 :: o9 :: (.int .i64 l) :: o11 :: (.int .i64 k) :: (.pointer (some ⟨g, 0, none⟩)) :: (.bool ok) :: o15 :: o16 :: o17 :: o18 :: o19 :: o20 :: o21 :: o22 :: o23 :: o24 :: o25 :: o26 :: o27 :: o28 :: o29 :: o30 :: o31 :: o32 :: o33 :: o34 :: o35 :: o36 :: o37 :: o38 :: u_39 :: u_40 :: u_41 :: u_42 :: u_43 :: u_44 :: u_45 :: u_46 :: u_47 :: u_48 :: o49 :: o50 :: o51 :: o52 :: o53 :: o54 :: o55 :: o56 :: o57 :: o58 :: o59 :: o60 :: o61 :: o62 :: o63 :: o64 :: o65 :: o66 :: o67 :: o68 :: o69 :: o70 :: []).toArray, []⟩ w')) :
  Code.wp Tryz.prog (clReg 8) Q0 ⟨(o0 :: (.int .i64 i) :: o2 :: (.slice A n c) :: (.pointer (some ⟨g4, 0, none⟩)) :: o5 :: o6 :: o7 :: o8 :: o9 :: (.int .i64 l) :: o11 :: (.int .i64 k) :: o13 :: o14 :: o15 :: o16 :: o17 :: o18 :: o19 :: o20 :: o21 :: o22 :: o23 :: o24 :: o25 :: o26 :: o27 :: o28 :: o29 :: o30 :: o31 :: o32 :: o33 :: o34 :: o35 :: o36 :: o37 :: o38 :: o39 :: o40 :: o41 :: o42 :: o43 :: o44 :: o45 :: o46 :: o47 :: o48 :: o49 :: o50 :: o51 :: o52 :: o53 :: o54 :: o55 :: o56 :: o57 :: o58 :: o59 :: o60 :: o61 :: o62 :: o63 :: o64 :: o65 :: o66 :: o67 :: o68 :: o69 :: o70 :: []).toArray, []⟩ w := by
 have HB := kp (Below.refl w.heap.size w)
 have hlc : l ≤ c := by omega
 conv => arg 2; whnf
 try go_wp2_with fail
 repeat' (first | (with_reducible refine wp_plan (id := 8) Grow [1,0,0,0,0,0,3,0,0,0,4,3,0] (.get 0 (.get 1 (.get 2 (.get 3 (.get 4 (.get 5 (.fork 6 (.get 7 (.get 8 (.get 9 (.act 10 (.act 11 (.get 12 .done)))))) (.act 10 (.act 6 (.get 7 (.get 8 (.get 9 (.act 11 (.get 12 .done)))))))))))))) (by kernel_rfl) (by kernel_rfl) Grow.refl Grow.trans ?_) | go_values | go_skip | go_guarded | go_step | go_upon | go_back)
 intro w_ hd_
 have hb_ := hd_.grow
 replace HB := kp (HB.out.grow' hb_)
 replace HV := kp (HV.out.grow hb_)
 clear hb_ hd_
 repeat (first | (refine pl_calm rfl rfl (by first | exact wanted_none rfl | (go_simp; done) | rfl) (fun w_ => by first | (go_simp; rfl) | (go_simp; done) | rfl) (fun K hK => ?_); go_simp; refine hK _ _ ?_; clear hK K) | (refine pl_skip rfl (by first | (go_simp; done) | rfl) (fun K hK => ?_); go_simp; refine hK _ _ ?_; clear hK K) | (refine pl_skipa rfl (by first | (go_simp; done) | rfl) (fun K hK => ?_); go_simp; refine hK _ _ ?_; clear hK K) | (refine pl_loadb rfl rfl (by first | exact wanted_none rfl | (go_simp; done) | rfl) rfl row_id HV.out.blk (by first | rfl | (go_simp; done) | rfl) HV.out.len (fun K hK => ?_); go_simp; refine hK _ _ ?_; clear hK K) | (refine pl_loadbnow rfl rfl (by first | exact wanted_none rfl | (go_simp; done) | rfl) rfl row_id HV.out.blk (by first | rfl | (go_simp; done) | rfl) HV.out.len (fun K hK => ?_); go_simp; refine hK _ _ ?_; clear hK K))
 refine pl_fork rfl (by exact wanted_none rfl) (fun K hK => ?_) ?_
 ·skip
  go_wp2_with fail
  refine (HCALL.out w_ HB.out).mono ?_
  rintro e w1 ⟨xs, d', rfl, hx, hphi, hb_⟩
  have HDX := kp hx
  have HPHI := kp hphi
  have HB_ := kp (HB.out.grow' hb_)
  go_wp2_with fail
  refine hK _ _ (fun _ => hb_) ?_
  clear hK K hb_ HB hx hphi
  try clear w_
  rename World => w_
  have HB := HB_
  clear HB_
  repeat ((first | refine pl_calm rfl rfl (by first | exact wanted_none rfl | (go_simp; done) | rfl) (fun w_ => by first | (go_simp; rfl) | (go_simp; done) | rfl) (fun K hK => ?_) | refine pl_skip rfl (by first | (go_simp; done) | rfl) (fun K hK => ?_) | refine pl_skipa rfl (by first | (go_simp; done) | rfl) (fun K hK => ?_)); go_simp; refine hK _ _ ?_; clear hK K)
  refine pl_act rfl (by exact wanted_none rfl) (fun K hK => ?_)
  have HG := kp HB.out.size
  show wpList _ _ _ [⟨some _, .alloc _, _, _, _, _⟩] _ _
  go_wp2_with (first | (with_reducible refine wpl_alloc (o := ⟨some 13, _, _, _, _, _⟩) rfl rfl zero_id ?_))
  intro w2_ hb2_ hb_ hsz2_
  have HX := kp (at_mk hb2_ len_id)
  have HB_ := kp (HB.out.grow' hb_)
  generalize hg_ : w_.heap.size = g at HX HG ⊢
  go_wp2_with fail
  refine hK _ _ (fun _ => hb_) ?_
  clear hK K hb2_ hsz2_ hb_ HB hg_
  try clear w_
  rename World => w_
  have HB := HB_
  clear HB_
  refine pl_act rfl (by first | exact wanted_none rfl | (go_simp; done) | rfl) (fun K hK => ?_)
  show wpList _ _ _ [⟨none, .store _ _ _, _, _, _, _⟩] _ _
  go_wp2_with (first | (with_reducible refine wpl_storeb (o := ⟨none, .store _ _ _, _, _, _, _⟩) rfl rfl row_id HX.out.blk rfl rfl HX.out.len HDX.out.len HDX.out.one ?_))
  intro w2_ hb2_ hg2_ hsz2_
  replace HB := kp (put_below HB.out HG.out hg2_)
  replace HX := kp (at_mk hb2_ HDX.out.len)
  clear hb2_ hg2_ hsz2_
  try clear w_
  rename World => w_
  go_wp2_with fail
  refine hK _ _ (fun h => by cases h) ?_
  clear hK K
  repeat ((first | refine pl_calm rfl rfl (by first | exact wanted_none rfl | (go_simp; done) | rfl) (fun w_ => by first | (go_simp; rfl) | (go_simp; done) | rfl) (fun K hK => ?_) | refine pl_skip rfl (by first | (go_simp; done) | rfl) (fun K hK => ?_) | refine pl_skipa rfl (by first | (go_simp; done) | rfl) (fun K hK => ?_)); go_simp; refine hK _ _ ?_; clear hK K)
  refine pl_done ?_
  exact HEX.out HB.out HX.out HDX.out HPHI.out
 ·skip
  refine pl_act rfl (by exact wanted_none rfl) (fun K hK => ?_)
  have HG := kp HB.out.size
  show wpList _ _ _ [⟨some _, .alloc _, _, _, _, _⟩] _ _
  go_wp2_with (first | (with_reducible refine wpl_alloc (o := ⟨some 13, _, _, _, _, _⟩) rfl rfl zero_id ?_))
  intro w2_ hb2_ hb_ hsz2_
  have HX := kp (at_mk hb2_ len_id)
  have HB_ := kp (HB.out.grow' hb_)
  generalize hg_ : w_.heap.size = g at HX HG ⊢
  go_wp2_with fail
  refine hK _ _ (fun _ => hb_) ?_
  clear hK K hb2_ hsz2_ hb_ HB hg_
  try clear w_
  rename World => w_
  have HB := HB_
  clear HB_
  refine pl_act rfl (by exact wanted_none rfl) (fun K hK => ?_)
  go_wp2_with fail
  refine (HCALL.out w_ HB.out).mono ?_
  rintro e w1 ⟨xs, d', rfl, hx, hphi, hb_⟩
  have HDX := kp hx
  have HPHI := kp hphi
  have HB_ := kp (HB.out.grow' hb_)
  replace HX := kp (HX.out.grow hb_)
  go_wp2_with fail
  refine hK _ _ (fun _ => hb_) ?_
  clear hK K hb_ HB hx hphi
  try clear w_
  rename World => w_
  have HB := HB_
  clear HB_
  repeat ((first | refine pl_calm rfl rfl (by first | exact wanted_none rfl | (go_simp; done) | rfl) (fun w_ => by first | (go_simp; rfl) | (go_simp; done) | rfl) (fun K hK => ?_) | refine pl_skip rfl (by first | (go_simp; done) | rfl) (fun K hK => ?_) | refine pl_skipa rfl (by first | (go_simp; done) | rfl) (fun K hK => ?_)); go_simp; refine hK _ _ ?_; clear hK K)
  refine pl_act rfl (by first | exact wanted_none rfl | (go_simp; done) | rfl) (fun K hK => ?_)
  show wpList _ _ _ [⟨none, .store _ _ _, _, _, _, _⟩] _ _
  go_wp2_with (first | (with_reducible refine wpl_storeb (o := ⟨none, .store _ _ _, _, _, _, _⟩) rfl rfl row_id HX.out.blk rfl rfl HX.out.len HDX.out.len HDX.out.one ?_))
  intro w2_ hb2_ hg2_ hsz2_
  replace HB := kp (put_below HB.out HG.out hg2_)
  replace HX := kp (at_mk hb2_ HDX.out.len)
  clear hb2_ hg2_ hsz2_
  try clear w_
  rename World => w_
  go_wp2_with fail
  refine hK _ _ (fun h => by cases h) ?_
  clear hK K
  repeat ((first | refine pl_calm rfl rfl (by first | exact wanted_none rfl | (go_simp; done) | rfl) (fun w_ => by first | (go_simp; rfl) | (go_simp; done) | rfl) (fun K hK => ?_) | refine pl_skip rfl (by first | (go_simp; done) | rfl) (fun K hK => ?_) | refine pl_skipa rfl (by first | (go_simp; done) | rfl) (fun K hK => ?_)); go_simp; refine hK _ _ ?_; clear hK K)
  refine pl_done ?_
  exact HEX.out HB.out HX.out HDX.out HPHI.out
set_option maxRecDepth 100000 in
set_option maxHeartbeats 1000000 in
theorem cl10 {o0 o5 o6 o7 o8 o9 o11 o13 o14 o15 o16 o17 o18 o19 o20 o21 o22 o23 o24 o25 o26 o27 o28 o29 o30 o31 o32 o33 o34 o35 o36 o37 o38 o39 o40 o41 o42 o43 o44 o45 o46 o47 o48 o49 o50 o51 o52 o53 o54 o55 o56 o57 o58 o59 o60 o61 o62 o63 o64 o65 o66 o67 o68 o69 o70 : Value} {Q0 : Exit → Act → World → Prop} {w : World} {A : Option Addr} {n c l N k i g4 : Nat} {ys : List Value} {ok : Bool} {phi : List UInt8 → Prop} (hl : l ≤ n) (hn : n ≤ c) (hik : k ≤ i) (hiN : i < N) (hN : N ≤ 16777216)
  (HV : Hid (At w g4 24 32 ys))
  (HCALL : Hid (∀ w1, Below w.heap.size w w1 → Calls Tryz.prog 88 #[.agg ys.toArray, .int .i64 ((i : Int) - (k : Int)), .int .i64 ((N : Int) - (k : Int)), .slice A l c] w1 fun e w' => ∃ xs d', e = .returned (.tuple #[.agg xs.toArray, .bool ok]) ∧ Dig xs d' ∧ phi d' ∧ Below w1.heap.size w1 w'))
  (HEX : Hid (∀ {u_53 u_54 u_55 u_56 u_57 u_58 u_59 u_60 u_61 u_62 u_63 u_64 u_65 u_66 : Value} {w' : World} {g : Nat} {xs : List Value} {d' : List UInt8}, Below w.heap.size w w' → At w' g 24 32 xs → Dig xs d' → phi d' →
   Q0 .normal ⟨(o0 :: (.int .i64 i) :: (.int .i64 N) :: (.slice A n c) :: (.pointer (some ⟨g4, 0, none⟩)) :: o5 :: o6 :: o7 :: o8 :: o9 :: (.int .i64 l) :: o11 :: (.int .i64 k) :: o13 :: o14 :: (.pointer (some ⟨g, 0, none⟩)) :: (.bool ok) :: o17 :: o18 :: o19 :: o20 :: o21 :: o22 :: o23 :: o24 :: o25 :: o26 :: o27 :: o28 :: o29 :: o30 :: o31 :: o32 :: o33 :: o34 :: o35 :: o36 :: o37 :: o38 :: o39 :: o40 :: o41 :: o42 :: o43 :: o44 :: o45 :: o46 :: o47 :: o48 :: o49 :: o50 :: o51 :: o52 :: u_53 :: u_54 :: u_55 :: u_56 :: u_57 :: u_58 :: u_59 :: u_60 :: u_61 :: u_62 :: u_63 :: u_64 :: u_65 :: u_66 :: o67 :: o68 :: o69 :: o70 :: []).toArray, []⟩ w')) :
  Code.wp Tryz.prog (clReg 10) Q0 ⟨(o0 :: (.int .i64 i) :: (.int .i64 N) :: (.slice A n c) :: (.pointer (some ⟨g4, 0, none⟩)) :: o5 :: o6 :: o7 :: o8 :: o9 :: (.int .i64 l) :: o11 :: (.int .i64 k) :: o13 :: o14 :: o15 :: o16 :: o17 :: o18 :: o19 :: o20 :: o21 :: o22 :: o23 :: o24 :: o25 :: o26 :: o27 :: o28 :: o29 :: o30 :: o31 :: o32 :: o33 :: o34 :: o35 :: o36 :: o37 :: o38 :: o39 :: o40 :: o41 :: o42 :: o43 :: o44 :: o45 :: o46 :: o47 :: o48 :: o49 :: o50 :: o51 :: o52 :: o53 :: o54 :: o55 :: o56 :: o57 :: o58 :: o59 :: o60 :: o61 :: o62 :: o63 :: o64 :: o65 :: o66 :: o67 :: o68 :: o69 :: o70 :: []).toArray, []⟩ w := by
 have HB := kp (Below.refl w.heap.size w)
 have hlc : l ≤ c := by omega
 conv => arg 2; whnf
 try go_wp2_with fail
 repeat' (first | (with_reducible refine wp_plan (id := 10) Grow [1,0,0,0,0,0,0,0,0,0,3,0,0,0,4,3,0] (.get 0 (.get 1 (.get 2 (.get 3 (.get 4 (.get 5 (.get 6 (.get 7 (.get 8 (.get 9 (.fork 10 (.get 11 (.get 12 (.get 13 (.act 14 (.act 15 (.get 16 .done)))))) (.act 14 (.act 10 (.get 11 (.get 12 (.get 13 (.act 15 (.get 16 .done)))))))))))))))))) (by kernel_rfl) (by kernel_rfl) Grow.refl Grow.trans ?_) | go_values | go_skip | go_guarded | go_step | go_upon | go_back)
 intro w_ hd_
 have hb_ := hd_.grow
 replace HB := kp (HB.out.grow' hb_)
 replace HV := kp (HV.out.grow hb_)
 clear hb_ hd_
 repeat (first | (refine pl_calm rfl rfl (by first | exact wanted_none rfl | (go_simp; done) | rfl) (fun w_ => by first | (go_simp; rfl) | (go_simp; done) | rfl) (fun K hK => ?_); go_simp; refine hK _ _ ?_; clear hK K) | (refine pl_skip rfl (by first | (go_simp; done) | rfl) (fun K hK => ?_); go_simp; refine hK _ _ ?_; clear hK K) | (refine pl_skipa rfl (by first | (go_simp; done) | rfl) (fun K hK => ?_); go_simp; refine hK _ _ ?_; clear hK K) | (refine pl_loadb rfl rfl (by first | exact wanted_none rfl | (go_simp; done) | rfl) rfl row_id HV.out.blk (by first | rfl | (go_simp; done) | rfl) HV.out.len (fun K hK => ?_); go_simp; refine hK _ _ ?_; clear hK K) | (refine pl_loadbnow rfl rfl (by first | exact wanted_none rfl | (go_simp; done) | rfl) rfl row_id HV.out.blk (by first | rfl | (go_simp; done) | rfl) HV.out.len (fun K hK => ?_); go_simp; refine hK _ _ ?_; clear hK K))
 refine pl_fork rfl (by exact wanted_none rfl) (fun K hK => ?_) ?_
 ·skip
  go_wp2_with fail
  refine (HCALL.out w_ HB.out).mono ?_
  rintro e w1 ⟨xs, d', rfl, hx, hphi, hb_⟩
  have HDX := kp hx
  have HPHI := kp hphi
  have HB_ := kp (HB.out.grow' hb_)
  go_wp2_with fail
  refine hK _ _ (fun _ => hb_) ?_
  clear hK K hb_ HB hx hphi
  try clear w_
  rename World => w_
  have HB := HB_
  clear HB_
  repeat ((first | refine pl_calm rfl rfl (by first | exact wanted_none rfl | (go_simp; done) | rfl) (fun w_ => by first | (go_simp; rfl) | (go_simp; done) | rfl) (fun K hK => ?_) | refine pl_skip rfl (by first | (go_simp; done) | rfl) (fun K hK => ?_) | refine pl_skipa rfl (by first | (go_simp; done) | rfl) (fun K hK => ?_)); go_simp; refine hK _ _ ?_; clear hK K)
  refine pl_act rfl (by exact wanted_none rfl) (fun K hK => ?_)
  have HG := kp HB.out.size
  show wpList _ _ _ [⟨some _, .alloc _, _, _, _, _⟩] _ _
  go_wp2_with (first | (with_reducible refine wpl_alloc (o := ⟨some 15, _, _, _, _, _⟩) rfl rfl zero_id ?_))
  intro w2_ hb2_ hb_ hsz2_
  have HX := kp (at_mk hb2_ len_id)
  have HB_ := kp (HB.out.grow' hb_)
  generalize hg_ : w_.heap.size = g at HX HG ⊢
  go_wp2_with fail
  refine hK _ _ (fun _ => hb_) ?_
  clear hK K hb2_ hsz2_ hb_ HB hg_
  try clear w_
  rename World => w_
  have HB := HB_
  clear HB_
  refine pl_act rfl (by first | exact wanted_none rfl | (go_simp; done) | rfl) (fun K hK => ?_)
  show wpList _ _ _ [⟨none, .store _ _ _, _, _, _, _⟩] _ _
  go_wp2_with (first | (with_reducible refine wpl_storeb (o := ⟨none, .store _ _ _, _, _, _, _⟩) rfl rfl row_id HX.out.blk rfl rfl HX.out.len HDX.out.len HDX.out.one ?_))
  intro w2_ hb2_ hg2_ hsz2_
  replace HB := kp (put_below HB.out HG.out hg2_)
  replace HX := kp (at_mk hb2_ HDX.out.len)
  clear hb2_ hg2_ hsz2_
  try clear w_
  rename World => w_
  go_wp2_with fail
  refine hK _ _ (fun h => by cases h) ?_
  clear hK K
  repeat ((first | refine pl_calm rfl rfl (by first | exact wanted_none rfl | (go_simp; done) | rfl) (fun w_ => by first | (go_simp; rfl) | (go_simp; done) | rfl) (fun K hK => ?_) | refine pl_skip rfl (by first | (go_simp; done) | rfl) (fun K hK => ?_) | refine pl_skipa rfl (by first | (go_simp; done) | rfl) (fun K hK => ?_)); go_simp; refine hK _ _ ?_; clear hK K)
  refine pl_done ?_
  exact HEX.out HB.out HX.out HDX.out HPHI.out
 ·skip
  refine pl_act rfl (by exact wanted_none rfl) (fun K hK => ?_)
  have HG := kp HB.out.size
  show wpList _ _ _ [⟨some _, .alloc _, _, _, _, _⟩] _ _
  go_wp2_with (first | (with_reducible refine wpl_alloc (o := ⟨some 15, _, _, _, _, _⟩) rfl rfl zero_id ?_))
  intro w2_ hb2_ hb_ hsz2_
  have HX := kp (at_mk hb2_ len_id)
  have HB_ := kp (HB.out.grow' hb_)
  generalize hg_ : w_.heap.size = g at HX HG ⊢
  go_wp2_with fail
  refine hK _ _ (fun _ => hb_) ?_
  clear hK K hb2_ hsz2_ hb_ HB hg_
  try clear w_
  rename World => w_
  have HB := HB_
  clear HB_
  refine pl_act rfl (by exact wanted_none rfl) (fun K hK => ?_)
  go_wp2_with fail
  refine (HCALL.out w_ HB.out).mono ?_
  rintro e w1 ⟨xs, d', rfl, hx, hphi, hb_⟩
  have HDX := kp hx
  have HPHI := kp hphi
  have HB_ := kp (HB.out.grow' hb_)
  replace HX := kp (HX.out.grow hb_)
  go_wp2_with fail
  refine hK _ _ (fun _ => hb_) ?_
  clear hK K hb_ HB hx hphi
  try clear w_
  rename World => w_
  have HB := HB_
  clear HB_
  repeat ((first | refine pl_calm rfl rfl (by first | exact wanted_none rfl | (go_simp; done) | rfl) (fun w_ => by first | (go_simp; rfl) | (go_simp; done) | rfl) (fun K hK => ?_) | refine pl_skip rfl (by first | (go_simp; done) | rfl) (fun K hK => ?_) | refine pl_skipa rfl (by first | (go_simp; done) | rfl) (fun K hK => ?_)); go_simp; refine hK _ _ ?_; clear hK K)
  refine pl_act rfl (by first | exact wanted_none rfl | (go_simp; done) | rfl) (fun K hK => ?_)
  show wpList _ _ _ [⟨none, .store _ _ _, _, _, _, _⟩] _ _
  go_wp2_with (first | (with_reducible refine wpl_storeb (o := ⟨none, .store _ _ _, _, _, _, _⟩) rfl rfl row_id HX.out.blk rfl rfl HX.out.len HDX.out.len HDX.out.one ?_))
  intro w2_ hb2_ hg2_ hsz2_
  replace HB := kp (put_below HB.out HG.out hg2_)
  replace HX := kp (at_mk hb2_ HDX.out.len)
  clear hb2_ hg2_ hsz2_
  try clear w_
  rename World => w_
  go_wp2_with fail
  refine hK _ _ (fun h => by cases h) ?_
  clear hK K
  repeat ((first | refine pl_calm rfl rfl (by first | exact wanted_none rfl | (go_simp; done) | rfl) (fun w_ => by first | (go_simp; rfl) | (go_simp; done) | rfl) (fun K hK => ?_) | refine pl_skip rfl (by first | (go_simp; done) | rfl) (fun K hK => ?_) | refine pl_skipa rfl (by first | (go_simp; done) | rfl) (fun K hK => ?_)); go_simp; refine hK _ _ ?_; clear hK K)
  refine pl_done ?_
  exact HEX.out HB.out HX.out HDX.out HPHI.out
end Go.Proofs.YtphmefhnffoafaaGreatDoor

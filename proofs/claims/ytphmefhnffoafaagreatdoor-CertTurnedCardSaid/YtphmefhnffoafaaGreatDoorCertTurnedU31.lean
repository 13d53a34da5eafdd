/- The contract of the document's Read of a certificate. Printed by mkrd11.py. -/
import Derived.Test.YtphmefhnffoafaaGreatDoorCertTurnedU27
import Derived.Test.YtphmefhnffoafaaGreatDoorCertTurnedU29
import Derived.Test.YtphmefhnffoafaaGreatDoorCertTurnedU30
set_option linter.unusedSimpArgs false
namespace Go.Proofs.YtphmefhnffoafaaGreatDoor
open Go.RowKit Go.Shelf
set_option linter.unusedVariables false
theorem OwnI.kept {w w' : World} {base n c q : Nat} {A : Option Addr} {ds : List (List UInt8)} {T : TypeId} {cs : List Value} (h : OwnI w base A n c ds) (hb : Blk w q T cs) (hT : T ≠ 24) (hg : w.grownBy w' (some q)) : OwnI w' base A n c ds := own_kept h hg (fun g hg e => own_ne h hb hT g (by rw [hg]; rfl) (Option.some.inj e))
theorem lookC_e1 {l : List UInt8} {x : Nat} (h1 : textR 100 l = .error x) : lookC l = .error x := by unfold lookC; rw [h1]
theorem lookC_e2 {l l1 eb : List UInt8} {x : Nat} (h1 : textR 100 l = .ok (eb, l1)) (h2 : numR 32 l1 = .error x) : lookC l = .error x := by unfold lookC; rw [h1]; simp only; rw [h2]
theorem lookC_e3 {l l1 eb l2 : List UInt8} {n x : Nat} (h1 : textR 100 l = .ok (eb, l1)) (h2 : numR 32 l1 = .ok (n, l2)) (h3 : idsR n l2 = .error x) : lookC l = .error x := by unfold lookC; rw [h1]; simp only; rw [h2]; simp only; rw [h3]
theorem lookC_e4 {l l1 eb l2 l3 : List UInt8} {p : List (List UInt8)} {n x : Nat} (h1 : textR 100 l = .ok (eb, l1)) (h2 : numR 32 l1 = .ok (n, l2)) (h3 : idsR n l2 = .ok (p, l3)) (h4 : textR 100 l3 = .error x) : lookC l = .error x := by unfold lookC; rw [h1]; simp only; rw [h2]; simp only; rw [h3]; simp only; rw [h4]
theorem lookC_e5 {l l1 eb l2 l3 hb l4 : List UInt8} {p : List (List UInt8)} {n x : Nat} (h1 : textR 100 l = .ok (eb, l1)) (h2 : numR 32 l1 = .ok (n, l2)) (h3 : idsR n l2 = .ok (p, l3)) (h4 : textR 100 l3 = .ok (hb, l4)) (h5 : takeR 32 l4 = .error x) : lookC l = .error x := by unfold lookC; rw [h1]; simp only; rw [h2]; simp only; rw [h3]; simp only; rw [h4]; simp only; rw [h5]
theorem lookC_o {l l1 eb l2 l3 hb l4 t l5 : List UInt8} {p : List (List UInt8)} {n : Nat} (h1 : textR 100 l = .ok (eb, l1)) (h2 : numR 32 l1 = .ok (n, l2)) (h3 : idsR n l2 = .ok (p, l3)) (h4 : textR 100 l3 = .ok (hb, l4)) (h5 : takeR 32 l4 = .ok (t, l5)) : lookC l = .ok (⟨eb, p, hb, t⟩, l5) := by unfold lookC; rw [h1]; simp only; rw [h2]; simp only; rw [h3]; simp only; rw [h4]; simp only; rw [h5]
theorem readC_e {l : List UInt8} {x : Nat} (h : lookC l = .error x) : readC l = .error x := by unfold readC; rw [h]
theorem readC_more {l l5 : List UInt8} {r : Raw} (h : lookC l = .ok (r, l5)) (h5 : l5 ≠ []) : readC l = .error 3 := by unfold readC; rw [h]; simp only; rw [if_pos h5]
theorem readC_w {l : List UInt8} {r : Raw} (h : lookC l = .ok (r, [])) : readC l = readW r := by unfold readC; rw [h]; simp only; rw [if_neg (by simp)]
theorem idsR_more {i n : Nat} {l : List UInt8} {x : Nat} (h : idsR i l = .error x) (hi : i ≤ n) : idsR n l = .error x := by
 have := idsR_err h (n - i)
 rwa [show i + (n - i) = n by omega] at this
theorem idsR_s {i : Nat} {l t : List UInt8} {ds : List (List UInt8)} {x : Nat} (h : idsR i l = .ok (ds, t)) (hx : takeR 32 t = .error x) : idsR (i + 1) l = .error x := by rw [idsR, h]; simp only; rw [hx]
theorem idsR_so {i : Nat} {l t d t2 : List UInt8} {ds : List (List UInt8)} (h : idsR i l = .ok (ds, t)) (hx : takeR 32 t = .ok (d, t2)) : idsR (i + 1) l = .ok (ds ++ [d], t2) := by rw [idsR, h]; simp only; rw [hx]
def Tk (F : List Value) {α : Type} (R : List UInt8 → Rd α) (fv : Nat → α → World → List Value → Prop) : Prop := ∀ (Bd : Nat) (A : Option Addr) (n c : Nat) (l : List UInt8) (w : World), Sl w Bd 1 A n (l.map B) → Bd ≤ w.heap.size → n ≤ c → n ≤ 1000000 → Calls Tryz.prog 30 #[.slice A n c, .agg F.toArray] w fun e w' => GotR (R l) (fv Bd) Bd w w' e
set_option maxRecDepth 100000 in
set_option maxHeartbeats 16000000 in
theorem rcread_any {A : Option Addr} {n c : Nat} {l : List UInt8} (w : World) (hs : Sl w w.heap.size 1 A n (l.map B)) (hc : n ≤ c) (hn : n ≤ 1000000) :
  Calls Tryz.prog 10 #[.slice A n c] w fun e w' => ∃ A' n' c', e = .returned (.tuple #[.agg (certV (.slice A' n' c') (cerOf (readC l))).toArray, .int .i64 (errOf (readC l) : Int)]) ∧ Ids w' A' n' c' (cerOf (readC l)).path ∧ n' ≤ 1000 ∧ Below w.heap.size w w' := by
 have HLN := kp (show l.length ≤ 1000000 by have := hs.len; simp at this; omega)
 have HSL := kp hs; have HCL := kp hc; have HNL := kp hn
 have HCZ := kp (cert_cl (v := .slice none 0 0) rfl noCer_ok)
 have BE := kp built_certE
 obtain ⟨out, hout⟩ : ∃ q, q = readC l := ⟨_, rfl⟩
 have HOUT := kp hout
 have HW0 := kp (show ∀ er : Nat, out = .error er → cerOf out = noCer ∧ errOf out = er from fun er h1 => by rw [h1]; exact ⟨rfl, rfl⟩)
 have HFE := kp (show ∀ x : Nat, lookC l = .error x → cerOf out = noCer ∧ errOf out = x from fun x h => HW0.out x (hout.trans (readC_e h)))
 rw [← hout]
 have T1 := kp (show Tk (fieldV 1 100 nilS zeroD) (textR 100) (fun Bd => textF Bd) from fun Bd A n c l w hs hb hc hn => rtake_text (m := 100) w hs hb hc hn (by omega))
 have B1 := kp (bt_fldkn (k := 1) (n := 100))
 obtain ⟨f1, hf1⟩ : ∃ q, q = fieldV 1 100 nilS zeroD := ⟨_, rfl⟩
 rw [← hf1] at T1 B1
 clear hf1
 have T2 := kp (show Tk (fieldV 0 32 nilS zeroD) (numR 32) (fun Bd => numF) from fun Bd A n c l w hs hb hc hn => rtake_num (m := 32) w hs hb hc hn (by omega))
 have B2 := kp (bt_fldn (n := 32))
 obtain ⟨f2, hf2⟩ : ∃ q, q = fieldV 0 32 nilS zeroD := ⟨_, rfl⟩
 rw [← hf2] at T2 B2
 clear hf2
 have T3 := kp (show Tk (fieldV 2 0 nilS zeroD) (takeR 32) (fun Bd => idF) from fun Bd A n c l w hs hb hc hn => rtake_id (m := 0) w hs hb hc hn)
 have B3 := kp (bt_fldk (k := 2))
 obtain ⟨f3, hf3⟩ : ∃ q, q = fieldV 2 0 nilS zeroD := ⟨_, rfl⟩
 rw [← hf3] at T3 B3
 clear hf3
 obtain ⟨w_, hw⟩ : ∃ x, x = w := ⟨_, rfl⟩
 have HB := kp (show Below w.heap.size w w_ by rw [hw]; exact Below.refl _ _)
 suffices H : Calls Tryz.prog 10 #[.slice A n c] w_ fun e w' => ∃ A' n' c', e = .returned (.tuple #[.agg (certV (.slice A' n' c') (cerOf out)).toArray, .int .i64 (errOf out : Int)]) ∧ Ids w' A' n' c' (cerOf out).path ∧ n' ≤ 1000 ∧ Below w.heap.size w w' by rw [hw] at H; exact H
 clear hw hs hc hn hout
 obtain ⟨zc, hzc⟩ : ∃ v, v = certV (.slice none 0 0) noCer := ⟨_, rfl⟩
 have HZC := kp hzc
 have ZC := kp zero_cert
 have LC := kp len_cert
 rw [← hzc] at HCZ BE ZC LC
 clear hzc
 go_enter Tryz.func10, Tryz.ntmps10
 go_wp2_with (first | (with_reducible refine wpl_alloc (o := ⟨some 2, _, _, _, _, _⟩) rfl rfl ZC.out ?_))
 intro w2_ hb2_ hb_ hsz2_
 have HV := kp (at_mk hb2_ LC.out)
 have HV_g := kp HB.out.size
 generalize hg_ : w_.heap.size = g2 at HV HV_g ⊢
 clear hb2_ hsz2_ hg_
 have hb_ := hb_
 clear hb_
 replace HB := kp (HB.out.grow' hb_)
 clear hb_
 try clear w_
 rename World => w_
 go_wp2_with (first | (with_reducible refine wpl_alloc (o := ⟨some 4, _, _, _, _, _⟩) rfl rfl ZC.out ?_))
 intro w2_ hb2_ hb_ hsz2_
 have HH := kp (at_mk hb2_ LC.out)
 have HLT := kp HV.out.lt
 have HH_g := kp HB.out.size
 generalize hg_ : w_.heap.size = g4 at HH HLT HH_g ⊢
 clear hb2_ hsz2_ hg_
 have hb_ := hb_
 clear hb_
 replace HB := kp (HB.out.grow' hb_)
 replace HV := kp (HV.out.grow hb_)
 clear hb_
 try clear w_
 rename World => w_
 go_wp2_with (first | (with_reducible refine wpl_stop (o := ⟨some 15, _, _, _, _, _⟩) ?_))
 refine stop_go ?_
 refine wpl_build rfl rfl B1.out ?_
 go_wp2_with fail
 refine (T1.out _ _ _ _ _ _ (HSL.out.below HB.out) HB.out.size HCL.out HNL.out).mono ?_
 rintro e w2_ hr_
 obtain ⟨hb_, ⟨x, hx, rfl⟩ | ⟨eb, l1, f, A2, c2, hx, rfl, hcl, hfv, hs2, hc2⟩⟩ := hr_.get
 ·skip
  have HX := kp (show lookC l = .error x from lookC_e1 hx)
  have HXN := kp (lookC_err HX.out)
  clear hr_ hx
  replace HV := kp (HV.out.grow hb_)
  replace HH := kp (HH.out.grow hb_)
  replace HB := kp (HB.out.grow' hb_)
  clear hb_
  try clear w_
  rename World => w_
  have HGC := kp (show Cl 37 (gotV noF (x : Int) nilS) from gotV_cl noF_cl rfl)
  have HG35 := kp (show (gotV noF (x : Int) nilS)[35]? = some (.int .i64 (x : Int)) from (gotV_at noF_cl).1)
  obtain ⟨gv, hgv⟩ : ∃ q, q = gotV noF (x : Int) nilS := ⟨_, rfl⟩
  rw [← hgv] at HGC HG35 ⊢
  clear hgv
  go_wp2_with (first | (with_reducible refine wpl_alloc (o := ⟨some 5, _, _, _, _, _⟩) rfl rfl zero_got ?_))
  intro w2_ hb2_ hb_ hsz2_
  have HX_ := kp (at_mk hb2_ len_got)
  clear hb2_ hsz2_
  have HG_ := kp HB.out.size
  have HG_HV := kp (Nat.ne_of_lt HV.out.lt)
  have HG_HH := kp (Nat.ne_of_lt HH.out.lt)
  have HG_HH_lt := kp (HH.out.lt)
  replace HB := kp (HB.out.grow' hb_)
  replace HV := kp (HV.out.grow hb_)
  replace HH := kp (HH.out.grow hb_)
  generalize hg_ : w_.heap.size = g5 at HX_ HG_ HG_HV HG_HH HG_HH_lt ⊢
  clear hg_
  have HG_g := HG_
  clear HG_
  have HG := HX_
  clear hb_ HX_
  try clear w_
  rename World => w_
  go_wp2_with (first | (with_reducible refine wpl_storeb (o := ⟨none, .store _ _ _, _, _, _, _⟩) rfl rfl row_got HG.out.blk rfl rfl HG.out.len HGC.out.len HGC.out.one ?_))
  intro w2_ hb2_ hg2_ hsz2_
  replace HB := kp (put_below HB.out HG_g.out hg2_)
  replace HG := kp (at_mk hb2_ HGC.out.len)
  replace HV := kp (At.off HV.out hg2_ HG_HV.out)
  replace HH := kp (At.off HH.out hg2_ HG_HH.out)
  clear hb2_ hg2_ hsz2_
  try clear w_
  rename World => w_
  have c35 := HG.out.blk.at_ HG35.out
  have d0 : ((x : Int) != 0) = true := by simp; exact HXN.out
  have d00 : ((x : Int) == 0) = false := by simp; exact HXN.out
  try go_wp2_with fail
  repeat' (first | (with_reducible refine wp_plan (id := 4) (fun a b => a.grownBy b (some g2)) [0,0,1,4,0] (.get 0 (.get 1 (.get 2 (.act 3 (.get 4 .done))))) (by kernel_rfl) (by kernel_rfl) (fun a => grownBy_refl a _) (fun _ _ _ h k => grownBy_trans h k) ?_) | go_values | go_skip | go_guarded | go_step | go_upon | go_back)
  intro w_ hd_
  have hb_ := hd_.grow
  replace HB := kp (HB.out.grow' hb_)
  replace HV := kp (HV.out.grow hb_)
  replace HG := kp (HG.out.grow hb_)
  clear hb_ hd_
  refine pl_calm rfl rfl (by exact wanted_none rfl) (fun w_ => by exact exec_build rfl BE.out w_) (fun K hK => ?_)
  go_simp
  refine hK _ _ ?_
  clear hK K
  repeat ((first | refine pl_calm rfl rfl (by first | exact wanted_none rfl | (go_simp; done) | rfl) (fun w_ => by first | (go_simp; rfl) | (go_simp; done) | rfl) (fun K hK => ?_) | refine pl_skip rfl (by first | (go_simp; done) | rfl) (fun K hK => ?_) | refine pl_skipa rfl (by first | (go_simp; done) | rfl) (fun K hK => ?_)); go_simp; refine hK _ _ ?_; clear hK K)
  refine pl_read rfl rfl (by exact wanted_none rfl) (v := .int .i64 (x : Int)) (fun w3_ hf_ => by have c9 := (HG.out.blk.grown hf_ (fun e => HG_HV.out (Option.some.inj e).symm)).at_ HG35.out; first | (go_simp; rfl) | (go_simp; done)) (fun K hK => ?_)
  go_simp
  refine hK _ _ ?_
  clear hK K
  refine pl_act rfl (by exact wanted_none rfl) (fun K hK => ?_)
  show wpList _ _ _ [⟨none, .store _ _ _, _, _, _, _⟩] _ _
  go_wp2_with (first | (with_reducible refine wpl_storeb (o := ⟨none, .store _ _ _, _, _, _, _⟩) rfl rfl row_cert HV.out.blk rfl rfl HV.out.len HCZ.out.len HCZ.out.one ?_))
  intro w2_ hb2_ hg2_ hsz2_
  go_wp2_with fail
  refine hK _ _ (fun _ => hg2_) ?_
  clear hK K
  replace HB := kp (put_below HB.out HV_g.out hg2_)
  replace HV := kp (at_mk hb2_ HCZ.out.len)
  clear hb2_ hg2_ hsz2_
  repeat ((first | refine pl_calm rfl rfl (by first | exact wanted_none rfl | (go_simp; done) | rfl) (fun w_ => by first | (go_simp; rfl) | (go_simp; done) | rfl) (fun K hK => ?_) | refine pl_skip rfl (by first | (go_simp; done) | rfl) (fun K hK => ?_) | refine pl_skipa rfl (by first | (go_simp; done) | rfl) (fun K hK => ?_)); go_simp; refine hK _ _ ?_; clear hK K)
  refine pl_done ?_
  go_wp2_with fail
  refine ret_cell_tmp rfl row_cert HV.out.blk rfl HV.out.len rfl rfl ?_
  exact ⟨none, 0, 0, by rw [(HFE.out x HX.out).1, (HFE.out x HX.out).2, HZC.out]; rfl, by rw [(HFE.out x HX.out).1]; exact Ids.none_ _, by omega, HB.out⟩
 ·skip
  have HR1 := kp hx
  have HLN_ := kp (show l1.length ≤ 1000000 from Nat.le_trans (textR_le hx).2 HLN.out)
  have HGC := kp (show Cl 37 (gotV f 0 (.slice A2 l1.length c2)) from gotV_cl hcl rfl)
  have HG35 := kp (show (gotV f 0 (.slice A2 l1.length c2))[35]? = some (.int .i64 0) from (gotV_at hcl).1)
  have HG36 := kp (show (gotV f 0 (.slice A2 l1.length c2))[36]? = some (.slice A2 l1.length c2) from (gotV_at hcl).2.1)
  obtain ⟨A5, c5, hfx, hsx, hcx⟩ := hfv
  have HG2 := kp (show (gotV f 0 (.slice A2 l1.length c2))[2]? = some (.slice A5 eb.length c5) from (gotV_at hcl).2.2 _ _ (by rw [hfx]; rfl))
  have HS5 := kp (show Sl w w.heap.size 1 A5 eb.length (eb.map B) from hsx.back (HB.out.grow' hb_))
  have HC5 := kp hcx
  have HL5 := kp (textR_le hx).1
  obtain ⟨n5, hn5⟩ : ∃ q, q = eb.length := ⟨_, rfl⟩
  rw [← hn5] at HG2 HS5 HC5 HL5
  clear hfx hsx hcx hn5
  have HSL_ := kp (show Sl w w.heap.size 1 A2 l1.length (l1.map B) from hs2.back (HB.out.grow' hb_))
  have HCL_ := kp hc2
  obtain ⟨gv, hgv⟩ : ∃ q, q = gotV f 0 (.slice A2 l1.length c2) := ⟨_, rfl⟩
  rw [← hgv] at HGC HG35 HG36 HG2 ⊢
  have HNL_ := HLN_
  obtain ⟨tl, hnl_⟩ : ∃ q, q = l1.length := ⟨_, rfl⟩
  rw [← hnl_] at HSL_ HCL_ HNL_ HG36
  have HTE := kp hnl_
  clear hr_ hx hcl hs2 hc2 hgv hnl_ HSL HCL HNL HLN
  have HSL := HSL_; have HCL := HCL_; have HNL := HNL_; have HLN := HLN_
  clear HSL_ HCL_ HNL_ HLN_
  replace HV := kp (HV.out.grow hb_)
  replace HH := kp (HH.out.grow hb_)
  replace HB := kp (HB.out.grow' hb_)
  clear hb_
  try clear w_
  rename World => w_
  go_wp2_with (first | (with_reducible refine wpl_alloc (o := ⟨some 5, _, _, _, _, _⟩) rfl rfl zero_got ?_))
  intro w2_ hb2_ hb_ hsz2_
  have HX_ := kp (at_mk hb2_ len_got)
  clear hb2_ hsz2_
  have HG_ := kp HB.out.size
  have HG_HV := kp (Nat.ne_of_lt HV.out.lt)
  have HG_HH := kp (Nat.ne_of_lt HH.out.lt)
  have HG_HH_lt := kp (HH.out.lt)
  replace HB := kp (HB.out.grow' hb_)
  replace HV := kp (HV.out.grow hb_)
  replace HH := kp (HH.out.grow hb_)
  generalize hg_ : w_.heap.size = g5 at HX_ HG_ HG_HV HG_HH HG_HH_lt ⊢
  clear hg_
  have HG_g := HG_
  clear HG_
  have HG := HX_
  clear hb_ HX_
  try clear w_
  rename World => w_
  go_wp2_with (first | (with_reducible refine wpl_storeb (o := ⟨none, .store _ _ _, _, _, _, _⟩) rfl rfl row_got HG.out.blk rfl rfl HG.out.len HGC.out.len HGC.out.one ?_))
  intro w2_ hb2_ hg2_ hsz2_
  replace HB := kp (put_below HB.out HG_g.out hg2_)
  replace HG := kp (at_mk hb2_ HGC.out.len)
  replace HV := kp (At.off HV.out hg2_ HG_HV.out)
  replace HH := kp (At.off HH.out hg2_ HG_HH.out)
  clear hb2_ hg2_ hsz2_
  try clear w_
  rename World => w_
  have c2 := HG.out.blk.at_ HG2.out
  have H45 := HG_HH_lt
  have c35 := HG.out.blk.at_ HG35.out
  have c36 := HG.out.blk.at_ HG36.out
  go_wp2_with (first | (with_reducible refine wpl_stop (o := ⟨some 28, _, _, _, _, _⟩) ?_))
  refine stop_go ?_
  refine wpl_build rfl rfl B2.out ?_
  go_wp2_with fail
  refine (T2.out _ _ _ _ _ _ (HSL.out.below HB.out) HB.out.size HCL.out HNL.out).mono ?_
  rintro e w2_ hr_
  clear c35 c36
  obtain ⟨hb_, ⟨x, hx, rfl⟩ | ⟨nn, l2, f, A2, c2, hx, rfl, hcl, hfv, hs2, hc2⟩⟩ := hr_.get
  ·skip
   have HX := kp (show lookC l = .error x from lookC_e2 HR1.out hx)
   have HXN := kp (lookC_err HX.out)
   clear hr_ hx
   clear HG35 HG36
   replace HV := kp (HV.out.grow hb_)
   replace HH := kp (HH.out.grow hb_)
   replace HG := kp (HG.out.grow hb_)
   replace HB := kp (HB.out.grow' hb_)
   clear hb_
   try clear w_
   rename World => w_
   have HGC := kp (show Cl 37 (gotV noF (x : Int) nilS) from gotV_cl noF_cl rfl)
   have HG35 := kp (show (gotV noF (x : Int) nilS)[35]? = some (.int .i64 (x : Int)) from (gotV_at noF_cl).1)
   have HG1 := kp (show (gotV noF (x : Int) nilS)[1]? = some (.int .u64 0) from rfl)
   obtain ⟨gv, hgv⟩ : ∃ q, q = gotV noF (x : Int) nilS := ⟨_, rfl⟩
   rw [← hgv] at HGC HG35 HG1 ⊢
   clear hgv
   go_wp2_with (first | (with_reducible refine wpl_storeb (o := ⟨none, .store _ _ _, _, _, _, _⟩) rfl rfl row_got HG.out.blk rfl rfl HG.out.len HGC.out.len HGC.out.one ?_))
   intro w2_ hb2_ hg2_ hsz2_
   replace HB := kp (put_below HB.out HG_g.out hg2_)
   replace HG := kp (at_mk hb2_ HGC.out.len)
   replace HV := kp (At.off HV.out hg2_ HG_HV.out)
   replace HH := kp (At.off HH.out hg2_ HG_HH.out)
   clear hb2_ hg2_ hsz2_
   try clear w_
   rename World => w_
   have c1 := HG.out.blk.at_ HG1.out
   have q0 : IntKind.i64.wrap 0 = 0 := IntWalk.i64_in _ (by omega)
   go_wp2_with fail
   clear c1
   go_loopw [8] (fun iv wr => iv = .int .i64 0 ∧ Hid (At wr g5 75 37 gv) ∧ Hid (At wr g2 35 137 zc) ∧ Hid (Below w.heap.size w wr)) (fun _ _ => 0)
   case atStart => exact ⟨rfl, HG, HV, HB⟩
   case round =>
    obtain ⟨rfl, hG, hV, hB⟩ := hrel
    clear HG HV HB HH
    have HG := kp hG.out; have HV := kp hV.out; have HB := kp hB.out
    clear hG hV hB
    rename World => w_
    have c35 := HG.out.blk.at_ HG35.out
    have d0 : ((x : Int) != 0) = true := by simp; exact HXN.out
    have d00 : ((x : Int) == 0) = false := by simp; exact HXN.out
    try go_wp2_with fail
    repeat' (first | (with_reducible refine wp_plan (id := 14) (fun a b => a.grownBy b (some g2)) [0,0,1,4,0] (.get 0 (.get 1 (.get 2 (.act 3 (.get 4 .done))))) (by kernel_rfl) (by kernel_rfl) (fun a => grownBy_refl a _) (fun _ _ _ h k => grownBy_trans h k) ?_) | go_values | go_skip | go_guarded | go_step | go_upon | go_back)
    intro w_ hd_
    have hb_ := hd_.grow
    replace HB := kp (HB.out.grow' hb_)
    replace HV := kp (HV.out.grow hb_)
    replace HG := kp (HG.out.grow hb_)
    clear hb_ hd_
    refine pl_calm rfl rfl (by exact wanted_none rfl) (fun w_ => by exact exec_build rfl BE.out w_) (fun K hK => ?_)
    go_simp
    refine hK _ _ ?_
    clear hK K
    repeat ((first | refine pl_calm rfl rfl (by first | exact wanted_none rfl | (go_simp; done) | rfl) (fun w_ => by first | (go_simp; rfl) | (go_simp; done) | rfl) (fun K hK => ?_) | refine pl_skip rfl (by first | (go_simp; done) | rfl) (fun K hK => ?_) | refine pl_skipa rfl (by first | (go_simp; done) | rfl) (fun K hK => ?_)); go_simp; refine hK _ _ ?_; clear hK K)
    refine pl_read rfl rfl (by exact wanted_none rfl) (v := .int .i64 (x : Int)) (fun w3_ hf_ => by have c9 := (HG.out.blk.grown hf_ (fun e => HG_HV.out (Option.some.inj e).symm)).at_ HG35.out; first | (go_simp; rfl) | (go_simp; done)) (fun K hK => ?_)
    go_simp
    refine hK _ _ ?_
    clear hK K
    refine pl_act rfl (by exact wanted_none rfl) (fun K hK => ?_)
    show wpList _ _ _ [⟨none, .store _ _ _, _, _, _, _⟩] _ _
    go_wp2_with (first | (with_reducible refine wpl_storeb (o := ⟨none, .store _ _ _, _, _, _, _⟩) rfl rfl row_cert HV.out.blk rfl rfl HV.out.len HCZ.out.len HCZ.out.one ?_))
    intro w2_ hb2_ hg2_ hsz2_
    go_wp2_with fail
    refine hK _ _ (fun _ => hg2_) ?_
    clear hK K
    replace HB := kp (put_below HB.out HV_g.out hg2_)
    replace HV := kp (at_mk hb2_ HCZ.out.len)
    clear hb2_ hg2_ hsz2_
    repeat ((first | refine pl_calm rfl rfl (by first | exact wanted_none rfl | (go_simp; done) | rfl) (fun w_ => by first | (go_simp; rfl) | (go_simp; done) | rfl) (fun K hK => ?_) | refine pl_skip rfl (by first | (go_simp; done) | rfl) (fun K hK => ?_) | refine pl_skipa rfl (by first | (go_simp; done) | rfl) (fun K hK => ?_)); go_simp; refine hK _ _ ?_; clear hK K)
    refine pl_done ?_
    go_wp2_with fail
    refine ret_cell_tmp rfl row_cert HV.out.blk rfl HV.out.len rfl rfl ?_
    exact ⟨none, 0, 0, by rw [(HFE.out x HX.out).1, (HFE.out x HX.out).2, HZC.out]; rfl, by rw [(HFE.out x HX.out).1]; exact Ids.none_ _, by omega, HB.out⟩
  ·skip
   have HR2 := kp hx
   have HLN_ := kp (show l2.length ≤ 1000000 from Nat.le_trans (numR_le hx).2.2 HLN.out)
   have HGC := kp (show Cl 37 (gotV f 0 (.slice A2 l2.length c2)) from gotV_cl hcl rfl)
   clear HG35 HG36
   have HG35 := kp (show (gotV f 0 (.slice A2 l2.length c2))[35]? = some (.int .i64 0) from (gotV_at hcl).1)
   have HG36 := kp (show (gotV f 0 (.slice A2 l2.length c2))[36]? = some (.slice A2 l2.length c2) from (gotV_at hcl).2.1)
   have HG1 := kp (show (gotV f 0 (.slice A2 l2.length c2))[1]? = some (.int .u64 ((nn : Nat) : Int)) from (gotV_at hcl).2.2 _ _ (by rw [show f = _ from hfv]; rfl))
   have HVM := kp (numR_le hx).1
   have HSL_ := kp (show Sl w w.heap.size 1 A2 l2.length (l2.map B) from hs2.back (HB.out.grow' hb_))
   have HCL_ := kp hc2
   obtain ⟨gv, hgv⟩ : ∃ q, q = gotV f 0 (.slice A2 l2.length c2) := ⟨_, rfl⟩
   rw [← hgv] at HGC HG35 HG36 HG1 ⊢
   have HNL_ := HLN_
   obtain ⟨tl, hnl_⟩ : ∃ q, q = l2.length := ⟨_, rfl⟩
   rw [← hnl_] at HSL_ HCL_ HNL_ HG36
   have HTE := kp hnl_
   clear hr_ hx hcl hfv hs2 hc2 hgv hnl_ HSL HCL HNL HLN
   have HSL := HSL_; have HCL := HCL_; have HNL := HNL_; have HLN := HLN_
   clear HSL_ HCL_ HNL_ HLN_
   replace HV := kp (HV.out.grow hb_)
   replace HH := kp (HH.out.grow hb_)
   replace HG := kp (HG.out.grow hb_)
   replace HB := kp (HB.out.grow' hb_)
   clear hb_
   try clear w_
   rename World => w_
   go_wp2_with (first | (with_reducible refine wpl_storeb (o := ⟨none, .store _ _ _, _, _, _, _⟩) rfl rfl row_got HG.out.blk rfl rfl HG.out.len HGC.out.len HGC.out.one ?_))
   intro w2_ hb2_ hg2_ hsz2_
   replace HB := kp (put_below HB.out HG_g.out hg2_)
   replace HG := kp (at_mk hb2_ HGC.out.len)
   replace HV := kp (At.off HV.out hg2_ HG_HV.out)
   replace HH := kp (At.off HH.out hg2_ HG_HH.out)
   clear hb2_ hg2_ hsz2_
   try clear w_
   rename World => w_
   have c1 := HG.out.blk.at_ HG1.out
   have q1 : IntKind.i64.wrap (nn : Int) = (nn : Int) := IntWalk.i64_in _ (by have := HVM.out; omega)
   rw [HZC.out] at HH
   go_wp2_with fail
   clear c1 q1
   go_loopw [8] (fun iv wr => ∃ i : Nat, ∃ Ap cp, ∃ ds : List (List UInt8), ∃ er : Nat, ∃ gv : List Value, i ≤ nn ∧ iv = .int .i64 (i : Int) ∧ Hid (At wr g5 75 37 gv) ∧ Hid (gv[35]? = some (.int .i64 (er : Int))) ∧ Hid (OwnI wr (g5 + 1) Ap i cp ds) ∧ Hid (At wr g4 35 137 (certV (.slice Ap i cp) noCer)) ∧ Hid (At wr g2 35 137 zc) ∧ Hid (Below w.heap.size w wr) ∧ Hid ((er ≠ 0 ∧ lookC l = .error er) ∨ (er = 0 ∧ ∃ A3 t3 c3 l3, idsR i l2 = .ok (ds, l3) ∧ gv[36]? = some (.slice A3 t3 c3) ∧ Sl w w.heap.size 1 A3 t3 (l3.map B) ∧ t3 ≤ c3 ∧ t3 ≤ 1000000 ∧ l3.length ≤ 1000000))) (fun iv _ => nn - (intOf iv).toNat)
   case atStart => exact ⟨0, none, 0, [], 0, gv, by omega, rfl, HG, HG35, kp (World.ownsRow_nil _ _ _ _), HH, HV, HB, kp (.inr ⟨rfl, _, _, _, l2, rfl, HG36.out, HSL.out, HCL.out, HNL.out, HLN.out⟩)⟩
   case round =>
    obtain ⟨i, Ap, cp, ds, x, gv, hin, rfl, hG, hG35, hO, hH, hV, hB, hcase⟩ := hrel
    clear HG HV HB HH HG35 HG36 HSL HCL HNL HLN
    have HG := kp hG.out; have HG35 := kp hG35.out; have HO := kp hO.out; have HH := kp hH.out; have HV := kp hV.out; have HB := kp hB.out
    clear hG hG35 hO hH hV hB
    rename World => w_
    rcases hcase.out with ⟨hx0, hle⟩ | ⟨rfl, A3, t3, c3, l3, hI, hg36, hs3, hc3, ht3, hl3⟩
    ·skip
     have HX := kp hle; have HXN := kp hx0
     clear hle hx0 hcase
     by_cases hlt : i < nn
     ·have d1 : decide ((i : Int) < (nn : Int)) = true := by simp; omega
      have c35 := HG.out.blk.at_ HG35.out
      have d0 : ((x : Int) != 0) = true := by simp; exact HXN.out
      have d00 : ((x : Int) == 0) = false := by simp; exact HXN.out
      try go_wp2_with fail
      repeat' (first | (with_reducible refine wp_plan (id := 14) (fun a b => a.grownBy b (some g2)) [0,0,1,4,0] (.get 0 (.get 1 (.get 2 (.act 3 (.get 4 .done))))) (by kernel_rfl) (by kernel_rfl) (fun a => grownBy_refl a _) (fun _ _ _ h k => grownBy_trans h k) ?_) | go_values | go_skip | go_guarded | go_step | go_upon | go_back)
      intro w_ hd_
      have hb_ := hd_.grow
      replace HB := kp (HB.out.grow' hb_)
      replace HV := kp (HV.out.grow hb_)
      replace HG := kp (HG.out.grow hb_)
      clear hb_ hd_
      refine pl_calm rfl rfl (by exact wanted_none rfl) (fun w_ => by exact exec_build rfl BE.out w_) (fun K hK => ?_)
      go_simp
      refine hK _ _ ?_
      clear hK K
      repeat ((first | refine pl_calm rfl rfl (by first | exact wanted_none rfl | (go_simp; done) | rfl) (fun w_ => by first | (go_simp; rfl) | (go_simp; done) | rfl) (fun K hK => ?_) | refine pl_skip rfl (by first | (go_simp; done) | rfl) (fun K hK => ?_) | refine pl_skipa rfl (by first | (go_simp; done) | rfl) (fun K hK => ?_)); go_simp; refine hK _ _ ?_; clear hK K)
      refine pl_read rfl rfl (by exact wanted_none rfl) (v := .int .i64 (x : Int)) (fun w3_ hf_ => by have c9 := (HG.out.blk.grown hf_ (fun e => HG_HV.out (Option.some.inj e).symm)).at_ HG35.out; first | (go_simp; rfl) | (go_simp; done)) (fun K hK => ?_)
      go_simp
      refine hK _ _ ?_
      clear hK K
      refine pl_act rfl (by exact wanted_none rfl) (fun K hK => ?_)
      show wpList _ _ _ [⟨none, .store _ _ _, _, _, _, _⟩] _ _
      go_wp2_with (first | (with_reducible refine wpl_storeb (o := ⟨none, .store _ _ _, _, _, _, _⟩) rfl rfl row_cert HV.out.blk rfl rfl HV.out.len HCZ.out.len HCZ.out.one ?_))
      intro w2_ hb2_ hg2_ hsz2_
      go_wp2_with fail
      refine hK _ _ (fun _ => hg2_) ?_
      clear hK K
      replace HB := kp (put_below HB.out HV_g.out hg2_)
      replace HV := kp (at_mk hb2_ HCZ.out.len)
      clear hb2_ hg2_ hsz2_
      repeat ((first | refine pl_calm rfl rfl (by first | exact wanted_none rfl | (go_simp; done) | rfl) (fun w_ => by first | (go_simp; rfl) | (go_simp; done) | rfl) (fun K hK => ?_) | refine pl_skip rfl (by first | (go_simp; done) | rfl) (fun K hK => ?_) | refine pl_skipa rfl (by first | (go_simp; done) | rfl) (fun K hK => ?_)); go_simp; refine hK _ _ ?_; clear hK K)
      refine pl_done ?_
      go_wp2_with fail
      refine ret_cell_tmp rfl row_cert HV.out.blk rfl HV.out.len rfl rfl ?_
      exact ⟨none, 0, 0, by rw [(HFE.out x HX.out).1, (HFE.out x HX.out).2, HZC.out]; rfl, by rw [(HFE.out x HX.out).1]; exact Ids.none_ _, by omega, HB.out⟩
     ·have d1 : decide ((i : Int) < (nn : Int)) = false := by simp; omega
      have c35 := HG.out.blk.at_ HG35.out
      have d0 : ((x : Int) != 0) = true := by simp; exact HXN.out
      have d00 : ((x : Int) == 0) = false := by simp; exact HXN.out
      try go_wp2_with fail
      repeat' (first | (with_reducible refine wp_plan (id := 14) (fun a b => a.grownBy b (some g2)) [0,0,1,4,0] (.get 0 (.get 1 (.get 2 (.act 3 (.get 4 .done))))) (by kernel_rfl) (by kernel_rfl) (fun a => grownBy_refl a _) (fun _ _ _ h k => grownBy_trans h k) ?_) | go_values | go_skip | go_guarded | go_step | go_upon | go_back)
      intro w_ hd_
      have hb_ := hd_.grow
      replace HB := kp (HB.out.grow' hb_)
      replace HV := kp (HV.out.grow hb_)
      replace HG := kp (HG.out.grow hb_)
      clear hb_ hd_
      refine pl_calm rfl rfl (by exact wanted_none rfl) (fun w_ => by exact exec_build rfl BE.out w_) (fun K hK => ?_)
      go_simp
      refine hK _ _ ?_
      clear hK K
      repeat ((first | refine pl_calm rfl rfl (by first | exact wanted_none rfl | (go_simp; done) | rfl) (fun w_ => by first | (go_simp; rfl) | (go_simp; done) | rfl) (fun K hK => ?_) | refine pl_skip rfl (by first | (go_simp; done) | rfl) (fun K hK => ?_) | refine pl_skipa rfl (by first | (go_simp; done) | rfl) (fun K hK => ?_)); go_simp; refine hK _ _ ?_; clear hK K)
      refine pl_read rfl rfl (by exact wanted_none rfl) (v := .int .i64 (x : Int)) (fun w3_ hf_ => by have c9 := (HG.out.blk.grown hf_ (fun e => HG_HV.out (Option.some.inj e).symm)).at_ HG35.out; first | (go_simp; rfl) | (go_simp; done)) (fun K hK => ?_)
      go_simp
      refine hK _ _ ?_
      clear hK K
      refine pl_act rfl (by exact wanted_none rfl) (fun K hK => ?_)
      show wpList _ _ _ [⟨none, .store _ _ _, _, _, _, _⟩] _ _
      go_wp2_with (first | (with_reducible refine wpl_storeb (o := ⟨none, .store _ _ _, _, _, _, _⟩) rfl rfl row_cert HV.out.blk rfl rfl HV.out.len HCZ.out.len HCZ.out.one ?_))
      intro w2_ hb2_ hg2_ hsz2_
      go_wp2_with fail
      refine hK _ _ (fun _ => hg2_) ?_
      clear hK K
      replace HB := kp (put_below HB.out HV_g.out hg2_)
      replace HV := kp (at_mk hb2_ HCZ.out.len)
      clear hb2_ hg2_ hsz2_
      repeat ((first | refine pl_calm rfl rfl (by first | exact wanted_none rfl | (go_simp; done) | rfl) (fun w_ => by first | (go_simp; rfl) | (go_simp; done) | rfl) (fun K hK => ?_) | refine pl_skip rfl (by first | (go_simp; done) | rfl) (fun K hK => ?_) | refine pl_skipa rfl (by first | (go_simp; done) | rfl) (fun K hK => ?_)); go_simp; refine hK _ _ ?_; clear hK K)
      refine pl_done ?_
      go_wp2_with fail
      refine ret_cell_tmp rfl row_cert HV.out.blk rfl HV.out.len rfl rfl ?_
      exact ⟨none, 0, 0, by rw [(HFE.out x HX.out).1, (HFE.out x HX.out).2, HZC.out]; rfl, by rw [(HFE.out x HX.out).1]; exact Ids.none_ _, by omega, HB.out⟩
    ·skip
     have HI := kp hI; have HG36 := kp hg36; have HSL := kp hs3; have HCL := kp hc3; have HNL := kp ht3; have HLN := kp hl3
     clear hI hg36 hs3 hc3 ht3 hl3 hcase
     by_cases hlt : i < nn
     ·have d1 : decide ((i : Int) < (nn : Int)) = true := by simp; omega
      have c35 := HG.out.blk.at_ HG35.out
      have c36 := HG.out.blk.at_ HG36.out
      go_wp2_with (first | (with_reducible refine wpl_stop (o := ⟨some 46, _, _, _, _, _⟩) ?_))
      refine stop_go ?_
      refine wpl_build rfl rfl B3.out ?_
      go_wp2_with fail
      refine (T3.out _ _ _ _ _ _ (HSL.out.below HB.out) HB.out.size HCL.out HNL.out).mono ?_
      rintro e w2_ hr_
      clear c35 c36
      obtain ⟨hb_, ⟨x, hx, rfl⟩ | ⟨d, l4, f, A2, c2, hx, rfl, hcl, hfv, hs2, hc2⟩⟩ := hr_.get
      ·skip
       have HX := kp (show lookC l = .error x from lookC_e3 HR1.out HR2.out (idsR_more (idsR_s HI.out hx) hlt))
       have HXN := kp (lookC_err HX.out)
       clear hr_ hx
       clear HG35 HG36
       replace HV := kp (HV.out.grow hb_)
       replace HH := kp (HH.out.grow hb_)
       replace HG := kp (HG.out.grow hb_)
       replace HO := kp (HO.out.grow hb_)
       replace HB := kp (HB.out.grow' hb_)
       clear hb_
       try clear w_
       rename World => w_
       have HGC := kp (show Cl 37 (gotV noF (x : Int) nilS) from gotV_cl noF_cl rfl)
       have HG35 := kp (show (gotV noF (x : Int) nilS)[35]? = some (.int .i64 (x : Int)) from (gotV_at noF_cl).1)
       have HGD := kp (show ∀ (j : Nat) (u : Value), (zeroD.map B)[j]? = some u → (gotV noF (x : Int) nilS)[3 + j]? = some u from fun j u hu => (gotV_at noF_cl).2.2 _ _ (by unfold noF fieldV; rw [List.getElem?_append_right (by simp)]; simpa using hu))
       obtain ⟨gv, hgv⟩ : ∃ q, q = gotV noF (x : Int) nilS := ⟨_, rfl⟩
       rw [← hgv] at HGC HG35 HGD ⊢
       clear hgv
       go_wp2_with (first | (with_reducible refine wpl_storeb (o := ⟨none, .store _ _ _, _, _, _, _⟩) rfl rfl row_got HG.out.blk rfl rfl HG.out.len HGC.out.len HGC.out.one ?_))
       intro w2_ hb2_ hg2_ hsz2_
       replace HB := kp (put_below HB.out HG_g.out hg2_)
       replace HV := kp (At.off HV.out hg2_ HG_HV.out)
       replace HH := kp (At.off HH.out hg2_ HG_HH.out)
       replace HO := kp (HO.out.kept HG.out.blk (by decide) hg2_)
       replace HG := kp (at_mk hb2_ HGC.out.len)
       clear hb2_ hg2_ hsz2_
       try clear w_
       rename World => w_
       have HYL := kp (dig_map (show zeroD.length = 32 by simp [zeroD]))
       obtain ⟨ys, hys⟩ : ∃ v, v = zeroD.map B := ⟨_, rfl⟩
       have HYE := kp hys
       rw [← hys] at HYL HGD
       clear hys
       have HGM := kp (show ∀ (j : Nat) (u : Value), ys[j]? = some u → w_.cell? ⟨g5, 3 + j, none⟩ = some u from fun j u hu => HG.out.blk.at_ (HGD.out j u hu))
       have c37 : w_.cell? ⟨g4, 37, none⟩ = some (.slice Ap i cp) := HH.out.blk.at_ rfl
       have hysl := HYL.out.len
       go_wp2_with (first | (with_reducible refine wpl_stop (o := ⟨some 54, _, _, _, _, _⟩) ?_) | (with_reducible refine wpl_loadm (o := ⟨some 52, _, _, _, _, _⟩) rfl rfl row_id HGM.out rfl HYL.out.len ?_))
       refine stop_go ?_
       clear c37 HGM
       generalize hw_ : World.alloc w_ _ = w4_
       obtain ⟨hX_, hb_, hs_⟩ := alloc_eq hw_
       generalize hg_ : w_.heap.size = gx at hX_ hs_ ⊢
       have HSX := kp (show Sl w4_ w4_.heap.size 32 (some ⟨gx, 0, none⟩) 1 ys from (show Blk w4_ gx 24 ys by have h := hX_; rw [fold_set _ ys (by rw [HYL.out.len]; rfl)] at h; exact h).sl (by rw [HYL.out.len]))
       clear hw_ hX_ hs_ hg_ hysl
       replace HV := kp (HV.out.grow hb_)
       replace HH := kp (HH.out.grow hb_)
       replace HG := kp (HG.out.grow hb_)
       replace HO := kp (HO.out.grow hb_)
       replace HB := kp (HB.out.grow' hb_)
       clear hb_
       try clear w_
       rename World => w_
       have HIO := kp (show w_.ownsRow (g5 + 1) 24 32 (.slice Ap i cp) i (idCells ds) from HO.out)
       have HDZ := kp (show g5 + 1 ≤ w_.heap.size by have := HG.out.lt; omega)
       have hn32 := HVM.out
       go_wp2_with (at_builtin; refine wpl_apps rfl rfl el_id HIO.out rfl HSX.out rfl HYL.out.one (by omega) (by omega) HDZ.out ?_)
       clear hn32
       intro A4 c4 w4_ ho_ hg_ hA_
       have hne_ : ∀ q, Ap.map Addr.block = some q → g5 + 1 ≤ q := own_from HIO.out
       have HV_ := kp (show At w4_ g2 35 137 zc from at_mk (HV.out.blk.grown hg_ (fun e => by have h1 := hne_ _ e.symm; have := H45.out; have := HLT.out; omega)) HV.out.len)
       have HH_ := kp (show At w4_ g4 35 137 (certV (.slice Ap i cp) noCer) from at_mk (HH.out.blk.grown hg_ (fun e => by have h1 := hne_ _ e.symm; have := H45.out; omega)) HH.out.len)
       have HG_ := kp (show At w4_ g5 75 37 gv from at_mk (HG.out.blk.grown hg_ (fun e => by have h1 := hne_ _ e.symm; omega)) HG.out.len)
       have HO_ := kp (show OwnI w4_ (g5 + 1) A4 (i + 1) c4 (ds ++ [zeroD]) by unfold OwnI; rw [idCells_snoc, ← HYE.out]; exact ho_)
       have HB_ := kp (below_grown HB.out hg_ HB.out.size (fun q hq => by have h1 := hne_ q hq; have := HG_g.out; omega))
       clear ho_ hg_ hA_ hne_ HIO HDZ HSX
       clear HV HH HG HO HB
       have HV := HV_; have HH := HH_; have HG := HG_; have HO := HO_; have HB := HB_
       clear HV_ HH_ HG_ HO_ HB_
       try clear w_
       rename World => w_
       have hcl137 := HH.out.len
       go_wp2_with (first | (refine wpl_store1 (o := ⟨none, .store _ _ _, _, _, _, _⟩) rfl rfl HH.out.blk rfl rfl (by kernel_rfl) rfl rfl (by rw [hcl137]; omega) ?_))
       clear hcl137
       intro w2_ hb2_ hg2_ hsz2_
       have HB_ := kp (put_below HB.out HH_g.out hg2_)
       have HO_ := kp (HO.out.kept HH.out.blk (by decide) hg2_)
       have HH_ := kp (show At w2_ g4 35 137 (certV (.slice A4 (i + 1) c4) noCer) from at_mk (by rw [← cert_setv (v := .slice Ap i cp)]; exact hb2_) (certV_len noCer_ok))
       have HV_ := kp (At.off HV.out hg2_ (Nat.ne_of_lt HLT.out)); have HG_ := kp (At.off HG.out hg2_ (Nat.ne_of_gt H45.out))
       clear hb2_ hg2_ hsz2_
       clear HV HH HG HO HB
       have HV := HV_; have HH := HH_; have HG := HG_; have HO := HO_; have HB := HB_
       clear HV_ HH_ HG_ HO_ HB_
       try clear w_
       rename World => w_
       have q1 : IntKind.i64.wrap ((i : Int) + 1) = (i : Int) + 1 := IntWalk.i64_in _ (by have := HVM.out; omega)
       go_wp2_with fail
       go_roundw
       all_goals clear q1
       case rel => exact ⟨i + 1, A4, c4, ds ++ [zeroD], x, gv, by omega, by first | go_num | simp | rfl, HG, HG35, HO, HH, HV, HB, kp (.inl ⟨HXN.out, HX.out⟩)⟩
       case measure => simp [intOf]; omega
      ·skip
       have HR3 := kp hx
       have HLN_ := kp (show l4.length ≤ 1000000 from Nat.le_trans (takeR_le hx).2 HLN.out)
       have HGC := kp (show Cl 37 (gotV f 0 (.slice A2 l4.length c2)) from gotV_cl hcl rfl)
       clear HG35 HG36
       have HG35 := kp (show (gotV f 0 (.slice A2 l4.length c2))[35]? = some (.int .i64 0) from (gotV_at hcl).1)
       have HG36 := kp (show (gotV f 0 (.slice A2 l4.length c2))[36]? = some (.slice A2 l4.length c2) from (gotV_at hcl).2.1)
       have HGD := kp (show ∀ (j : Nat) (u : Value), (d.map B)[j]? = some u → (gotV f 0 (.slice A2 l4.length c2))[3 + j]? = some u from fun j u hu => (gotV_at hcl).2.2 _ _ (by rw [show f = _ from hfv]; unfold fieldV; rw [List.getElem?_append_right (by simp)]; simpa using hu))
       have HDL := kp (show d.length = 32 from (takeR_le hx).1)
       have HSL_ := kp (show Sl w w.heap.size 1 A2 l4.length (l4.map B) from hs2.back (HB.out.grow' hb_))
       have HCL_ := kp hc2
       obtain ⟨gv, hgv⟩ : ∃ q, q = gotV f 0 (.slice A2 l4.length c2) := ⟨_, rfl⟩
       rw [← hgv] at HGC HG35 HG36 HGD ⊢
       have HNL_ := HLN_
       obtain ⟨tl, hnl_⟩ : ∃ q, q = l4.length := ⟨_, rfl⟩
       rw [← hnl_] at HSL_ HCL_ HNL_ HG36
       have HTE := kp hnl_
       clear hr_ hx hcl hfv hs2 hc2 hgv hnl_ HSL HCL HNL HLN
       have HSL := HSL_; have HCL := HCL_; have HNL := HNL_; have HLN := HLN_
       clear HSL_ HCL_ HNL_ HLN_
       replace HV := kp (HV.out.grow hb_)
       replace HH := kp (HH.out.grow hb_)
       replace HG := kp (HG.out.grow hb_)
       replace HO := kp (HO.out.grow hb_)
       replace HB := kp (HB.out.grow' hb_)
       clear hb_
       try clear w_
       rename World => w_
       go_wp2_with (first | (with_reducible refine wpl_storeb (o := ⟨none, .store _ _ _, _, _, _, _⟩) rfl rfl row_got HG.out.blk rfl rfl HG.out.len HGC.out.len HGC.out.one ?_))
       intro w2_ hb2_ hg2_ hsz2_
       replace HB := kp (put_below HB.out HG_g.out hg2_)
       replace HV := kp (At.off HV.out hg2_ HG_HV.out)
       replace HH := kp (At.off HH.out hg2_ HG_HH.out)
       replace HO := kp (HO.out.kept HG.out.blk (by decide) hg2_)
       replace HG := kp (at_mk hb2_ HGC.out.len)
       clear hb2_ hg2_ hsz2_
       try clear w_
       rename World => w_
       have HYL := kp (dig_map HDL.out)
       obtain ⟨ys, hys⟩ : ∃ v, v = d.map B := ⟨_, rfl⟩
       have HYE := kp hys
       rw [← hys] at HYL HGD
       clear hys
       have HGM := kp (show ∀ (j : Nat) (u : Value), ys[j]? = some u → w_.cell? ⟨g5, 3 + j, none⟩ = some u from fun j u hu => HG.out.blk.at_ (HGD.out j u hu))
       have c37 : w_.cell? ⟨g4, 37, none⟩ = some (.slice Ap i cp) := HH.out.blk.at_ rfl
       have hysl := HYL.out.len
       go_wp2_with (first | (with_reducible refine wpl_stop (o := ⟨some 54, _, _, _, _, _⟩) ?_) | (with_reducible refine wpl_loadm (o := ⟨some 52, _, _, _, _, _⟩) rfl rfl row_id HGM.out rfl HYL.out.len ?_))
       refine stop_go ?_
       clear c37 HGM
       generalize hw_ : World.alloc w_ _ = w4_
       obtain ⟨hX_, hb_, hs_⟩ := alloc_eq hw_
       generalize hg_ : w_.heap.size = gx at hX_ hs_ ⊢
       have HSX := kp (show Sl w4_ w4_.heap.size 32 (some ⟨gx, 0, none⟩) 1 ys from (show Blk w4_ gx 24 ys by have h := hX_; rw [fold_set _ ys (by rw [HYL.out.len]; rfl)] at h; exact h).sl (by rw [HYL.out.len]))
       clear hw_ hX_ hs_ hg_ hysl
       replace HV := kp (HV.out.grow hb_)
       replace HH := kp (HH.out.grow hb_)
       replace HG := kp (HG.out.grow hb_)
       replace HO := kp (HO.out.grow hb_)
       replace HB := kp (HB.out.grow' hb_)
       clear hb_
       try clear w_
       rename World => w_
       have HIO := kp (show w_.ownsRow (g5 + 1) 24 32 (.slice Ap i cp) i (idCells ds) from HO.out)
       have HDZ := kp (show g5 + 1 ≤ w_.heap.size by have := HG.out.lt; omega)
       have hn32 := HVM.out
       go_wp2_with (at_builtin; refine wpl_apps rfl rfl el_id HIO.out rfl HSX.out rfl HYL.out.one (by omega) (by omega) HDZ.out ?_)
       clear hn32
       intro A4 c4 w4_ ho_ hg_ hA_
       have hne_ : ∀ q, Ap.map Addr.block = some q → g5 + 1 ≤ q := own_from HIO.out
       have HV_ := kp (show At w4_ g2 35 137 zc from at_mk (HV.out.blk.grown hg_ (fun e => by have h1 := hne_ _ e.symm; have := H45.out; have := HLT.out; omega)) HV.out.len)
       have HH_ := kp (show At w4_ g4 35 137 (certV (.slice Ap i cp) noCer) from at_mk (HH.out.blk.grown hg_ (fun e => by have h1 := hne_ _ e.symm; have := H45.out; omega)) HH.out.len)
       have HG_ := kp (show At w4_ g5 75 37 gv from at_mk (HG.out.blk.grown hg_ (fun e => by have h1 := hne_ _ e.symm; omega)) HG.out.len)
       have HO_ := kp (show OwnI w4_ (g5 + 1) A4 (i + 1) c4 (ds ++ [d]) by unfold OwnI; rw [idCells_snoc, ← HYE.out]; exact ho_)
       have HB_ := kp (below_grown HB.out hg_ HB.out.size (fun q hq => by have h1 := hne_ q hq; have := HG_g.out; omega))
       clear ho_ hg_ hA_ hne_ HIO HDZ HSX
       clear HV HH HG HO HB
       have HV := HV_; have HH := HH_; have HG := HG_; have HO := HO_; have HB := HB_
       clear HV_ HH_ HG_ HO_ HB_
       try clear w_
       rename World => w_
       have hcl137 := HH.out.len
       go_wp2_with (first | (refine wpl_store1 (o := ⟨none, .store _ _ _, _, _, _, _⟩) rfl rfl HH.out.blk rfl rfl (by kernel_rfl) rfl rfl (by rw [hcl137]; omega) ?_))
       clear hcl137
       intro w2_ hb2_ hg2_ hsz2_
       have HB_ := kp (put_below HB.out HH_g.out hg2_)
       have HO_ := kp (HO.out.kept HH.out.blk (by decide) hg2_)
       have HH_ := kp (show At w2_ g4 35 137 (certV (.slice A4 (i + 1) c4) noCer) from at_mk (by rw [← cert_setv (v := .slice Ap i cp)]; exact hb2_) (certV_len noCer_ok))
       have HV_ := kp (At.off HV.out hg2_ (Nat.ne_of_lt HLT.out)); have HG_ := kp (At.off HG.out hg2_ (Nat.ne_of_gt H45.out))
       clear hb2_ hg2_ hsz2_
       clear HV HH HG HO HB
       have HV := HV_; have HH := HH_; have HG := HG_; have HO := HO_; have HB := HB_
       clear HV_ HH_ HG_ HO_ HB_
       try clear w_
       rename World => w_
       have q1 : IntKind.i64.wrap ((i : Int) + 1) = (i : Int) + 1 := IntWalk.i64_in _ (by have := HVM.out; omega)
       go_wp2_with fail
       go_roundw
       all_goals clear q1
       case rel => exact ⟨i + 1, A4, c4, ds ++ [d], 0, gv, by omega, by first | go_num | simp | rfl, HG, HG35, HO, HH, HV, HB, kp (.inr ⟨rfl, _, _, _, l4, idsR_so HI.out HR3.out, HG36.out, HSL.out, HCL.out, HNL.out, HLN.out⟩)⟩
       case measure => simp [intOf]; omega
     ·have d1 : decide ((i : Int) < (nn : Int)) = false := by simp; omega
      obtain rfl : i = nn := by omega
      clear hlt hin
      have c35 := HG.out.blk.at_ HG35.out
      have c36 := HG.out.blk.at_ HG36.out
      go_wp2_with (first | (with_reducible refine wpl_stop (o := ⟨some 64, _, _, _, _, _⟩) ?_))
      refine stop_go ?_
      refine wpl_build rfl rfl B1.out ?_
      go_wp2_with fail
      refine (T1.out _ _ _ _ _ _ (HSL.out.below HB.out) HB.out.size HCL.out HNL.out).mono ?_
      rintro e w2_ hr_
      clear c35 c36
      obtain ⟨hb_, ⟨x, hx, rfl⟩ | ⟨hbt, l4, f, A2, c2, hx, rfl, hcl, hfv, hs2, hc2⟩⟩ := hr_.get
      ·skip
       have HX := kp (show lookC l = .error x from lookC_e4 HR1.out HR2.out HI.out hx)
       have HXN := kp (lookC_err HX.out)
       clear hr_ hx
       clear HG35 HG36
       replace HV := kp (HV.out.grow hb_)
       replace HH := kp (HH.out.grow hb_)
       replace HG := kp (HG.out.grow hb_)
       replace HO := kp (HO.out.grow hb_)
       replace HB := kp (HB.out.grow' hb_)
       clear hb_
       try clear w_
       rename World => w_
       have HGC := kp (show Cl 37 (gotV noF (x : Int) nilS) from gotV_cl noF_cl rfl)
       have HG35 := kp (show (gotV noF (x : Int) nilS)[35]? = some (.int .i64 (x : Int)) from (gotV_at noF_cl).1)
       obtain ⟨gv, hgv⟩ : ∃ q, q = gotV noF (x : Int) nilS := ⟨_, rfl⟩
       rw [← hgv] at HGC HG35 ⊢
       clear hgv
       go_wp2_with (first | (with_reducible refine wpl_storeb (o := ⟨none, .store _ _ _, _, _, _, _⟩) rfl rfl row_got HG.out.blk rfl rfl HG.out.len HGC.out.len HGC.out.one ?_))
       intro w2_ hb2_ hg2_ hsz2_
       replace HB := kp (put_below HB.out HG_g.out hg2_)
       replace HV := kp (At.off HV.out hg2_ HG_HV.out)
       replace HH := kp (At.off HH.out hg2_ HG_HH.out)
       replace HO := kp (HO.out.kept HG.out.blk (by decide) hg2_)
       replace HG := kp (at_mk hb2_ HGC.out.len)
       clear hb2_ hg2_ hsz2_
       try clear w_
       rename World => w_
       have c35 := HG.out.blk.at_ HG35.out
       have d0 : ((x : Int) != 0) = true := by simp; exact HXN.out
       have d00 : ((x : Int) == 0) = false := by simp; exact HXN.out
       try go_wp2_with fail
       repeat' (first | (with_reducible refine wp_plan (id := 17) (fun a b => a.grownBy b (some g2)) [0,0,1,4,0] (.get 0 (.get 1 (.get 2 (.act 3 (.get 4 .done))))) (by kernel_rfl) (by kernel_rfl) (fun a => grownBy_refl a _) (fun _ _ _ h k => grownBy_trans h k) ?_) | go_values | go_skip | go_guarded | go_step | go_upon | go_back)
       intro w_ hd_
       have hb_ := hd_.grow
       replace HB := kp (HB.out.grow' hb_)
       replace HV := kp (HV.out.grow hb_)
       replace HG := kp (HG.out.grow hb_)
       clear hb_ hd_
       refine pl_calm rfl rfl (by exact wanted_none rfl) (fun w_ => by exact exec_build rfl BE.out w_) (fun K hK => ?_)
       go_simp
       refine hK _ _ ?_
       clear hK K
       repeat ((first | refine pl_calm rfl rfl (by first | exact wanted_none rfl | (go_simp; done) | rfl) (fun w_ => by first | (go_simp; rfl) | (go_simp; done) | rfl) (fun K hK => ?_) | refine pl_skip rfl (by first | (go_simp; done) | rfl) (fun K hK => ?_) | refine pl_skipa rfl (by first | (go_simp; done) | rfl) (fun K hK => ?_)); go_simp; refine hK _ _ ?_; clear hK K)
       refine pl_read rfl rfl (by exact wanted_none rfl) (v := .int .i64 (x : Int)) (fun w3_ hf_ => by have c9 := (HG.out.blk.grown hf_ (fun e => HG_HV.out (Option.some.inj e).symm)).at_ HG35.out; first | (go_simp; rfl) | (go_simp; done)) (fun K hK => ?_)
       go_simp
       refine hK _ _ ?_
       clear hK K
       refine pl_act rfl (by exact wanted_none rfl) (fun K hK => ?_)
       show wpList _ _ _ [⟨none, .store _ _ _, _, _, _, _⟩] _ _
       go_wp2_with (first | (with_reducible refine wpl_storeb (o := ⟨none, .store _ _ _, _, _, _, _⟩) rfl rfl row_cert HV.out.blk rfl rfl HV.out.len HCZ.out.len HCZ.out.one ?_))
       intro w2_ hb2_ hg2_ hsz2_
       go_wp2_with fail
       refine hK _ _ (fun _ => hg2_) ?_
       clear hK K
       replace HB := kp (put_below HB.out HV_g.out hg2_)
       replace HV := kp (at_mk hb2_ HCZ.out.len)
       clear hb2_ hg2_ hsz2_
       repeat ((first | refine pl_calm rfl rfl (by first | exact wanted_none rfl | (go_simp; done) | rfl) (fun w_ => by first | (go_simp; rfl) | (go_simp; done) | rfl) (fun K hK => ?_) | refine pl_skip rfl (by first | (go_simp; done) | rfl) (fun K hK => ?_) | refine pl_skipa rfl (by first | (go_simp; done) | rfl) (fun K hK => ?_)); go_simp; refine hK _ _ ?_; clear hK K)
       refine pl_done ?_
       go_wp2_with fail
       refine ret_cell_tmp rfl row_cert HV.out.blk rfl HV.out.len rfl rfl ?_
       exact ⟨none, 0, 0, by rw [(HFE.out x HX.out).1, (HFE.out x HX.out).2, HZC.out]; rfl, by rw [(HFE.out x HX.out).1]; exact Ids.none_ _, by omega, HB.out⟩
      ·skip
       have HR4 := kp hx
       have HLN_ := kp (show l4.length ≤ 1000000 from Nat.le_trans (textR_le hx).2 HLN.out)
       have HGC := kp (show Cl 37 (gotV f 0 (.slice A2 l4.length c2)) from gotV_cl hcl rfl)
       clear HG35 HG36
       have HG35 := kp (show (gotV f 0 (.slice A2 l4.length c2))[35]? = some (.int .i64 0) from (gotV_at hcl).1)
       have HG36 := kp (show (gotV f 0 (.slice A2 l4.length c2))[36]? = some (.slice A2 l4.length c2) from (gotV_at hcl).2.1)
       obtain ⟨A6, c6, hfx, hsx, hcx⟩ := hfv
       have HG2 := kp (show (gotV f 0 (.slice A2 l4.length c2))[2]? = some (.slice A6 hbt.length c6) from (gotV_at hcl).2.2 _ _ (by rw [hfx]; rfl))
       have HS6 := kp (show Sl w w.heap.size 1 A6 hbt.length (hbt.map B) from hsx.back (HB.out.grow' hb_))
       have HC6 := kp hcx
       have HL6 := kp (textR_le hx).1
       obtain ⟨n6, hn6⟩ : ∃ q, q = hbt.length := ⟨_, rfl⟩
       rw [← hn6] at HG2 HS6 HC6 HL6
       clear hfx hsx hcx hn6
       have HSL_ := kp (show Sl w w.heap.size 1 A2 l4.length (l4.map B) from hs2.back (HB.out.grow' hb_))
       have HCL_ := kp hc2
       obtain ⟨gv, hgv⟩ : ∃ q, q = gotV f 0 (.slice A2 l4.length c2) := ⟨_, rfl⟩
       rw [← hgv] at HGC HG35 HG36 HG2 ⊢
       have HNL_ := HLN_
       obtain ⟨tl, hnl_⟩ : ∃ q, q = l4.length := ⟨_, rfl⟩
       rw [← hnl_] at HSL_ HCL_ HNL_ HG36
       have HTE := kp hnl_
       clear hr_ hx hcl hs2 hc2 hgv hnl_ HSL HCL HNL HLN
       have HSL := HSL_; have HCL := HCL_; have HNL := HNL_; have HLN := HLN_
       clear HSL_ HCL_ HNL_ HLN_
       replace HV := kp (HV.out.grow hb_)
       replace HH := kp (HH.out.grow hb_)
       replace HG := kp (HG.out.grow hb_)
       replace HO := kp (HO.out.grow hb_)
       replace HB := kp (HB.out.grow' hb_)
       clear hb_
       try clear w_
       rename World => w_
       go_wp2_with (first | (with_reducible refine wpl_storeb (o := ⟨none, .store _ _ _, _, _, _, _⟩) rfl rfl row_got HG.out.blk rfl rfl HG.out.len HGC.out.len HGC.out.one ?_))
       intro w2_ hb2_ hg2_ hsz2_
       replace HB := kp (put_below HB.out HG_g.out hg2_)
       replace HV := kp (At.off HV.out hg2_ HG_HV.out)
       replace HH := kp (At.off HH.out hg2_ HG_HH.out)
       replace HO := kp (HO.out.kept HG.out.blk (by decide) hg2_)
       replace HG := kp (at_mk hb2_ HGC.out.len)
       clear hb2_ hg2_ hsz2_
       try clear w_
       rename World => w_
       have c2 := HG.out.blk.at_ HG2.out
       have c35 := HG.out.blk.at_ HG35.out
       have c36 := HG.out.blk.at_ HG36.out
       go_wp2_with (first | (with_reducible refine wpl_stop (o := ⟨some 77, _, _, _, _, _⟩) ?_))
       refine stop_go ?_
       refine wpl_build rfl rfl B3.out ?_
       go_wp2_with fail
       refine (T3.out _ _ _ _ _ _ (HSL.out.below HB.out) HB.out.size HCL.out HNL.out).mono ?_
       rintro e w2_ hr_
       clear c35 c36
       obtain ⟨hb_, ⟨x, hx, rfl⟩ | ⟨tg, l5, f, A2, c2, hx, rfl, hcl, hfv, hs2, hc2⟩⟩ := hr_.get
       ·skip
        have HX := kp (show lookC l = .error x from lookC_e5 HR1.out HR2.out HI.out HR4.out hx)
        have HXN := kp (lookC_err HX.out)
        clear hr_ hx
        clear HG35 HG36
        replace HV := kp (HV.out.grow hb_)
        replace HH := kp (HH.out.grow hb_)
        replace HG := kp (HG.out.grow hb_)
        replace HO := kp (HO.out.grow hb_)
        replace HB := kp (HB.out.grow' hb_)
        clear hb_
        try clear w_
        rename World => w_
        have HGC := kp (show Cl 37 (gotV noF (x : Int) nilS) from gotV_cl noF_cl rfl)
        have HG35 := kp (show (gotV noF (x : Int) nilS)[35]? = some (.int .i64 (x : Int)) from (gotV_at noF_cl).1)
        obtain ⟨gv, hgv⟩ : ∃ q, q = gotV noF (x : Int) nilS := ⟨_, rfl⟩
        rw [← hgv] at HGC HG35 ⊢
        clear hgv
        go_wp2_with (first | (with_reducible refine wpl_storeb (o := ⟨none, .store _ _ _, _, _, _, _⟩) rfl rfl row_got HG.out.blk rfl rfl HG.out.len HGC.out.len HGC.out.one ?_))
        intro w2_ hb2_ hg2_ hsz2_
        replace HB := kp (put_below HB.out HG_g.out hg2_)
        replace HV := kp (At.off HV.out hg2_ HG_HV.out)
        replace HH := kp (At.off HH.out hg2_ HG_HH.out)
        replace HO := kp (HO.out.kept HG.out.blk (by decide) hg2_)
        replace HG := kp (at_mk hb2_ HGC.out.len)
        clear hb2_ hg2_ hsz2_
        try clear w_
        rename World => w_
        have c35 := HG.out.blk.at_ HG35.out
        have d0 : ((x : Int) != 0) = true := by simp; exact HXN.out
        have d00 : ((x : Int) == 0) = false := by simp; exact HXN.out
        try go_wp2_with fail
        repeat' (first | (with_reducible refine wp_plan (id := 21) (fun a b => a.grownBy b (some g2)) [0,0,1,4,0] (.get 0 (.get 1 (.get 2 (.act 3 (.get 4 .done))))) (by kernel_rfl) (by kernel_rfl) (fun a => grownBy_refl a _) (fun _ _ _ h k => grownBy_trans h k) ?_) | go_values | go_skip | go_guarded | go_step | go_upon | go_back)
        intro w_ hd_
        have hb_ := hd_.grow
        replace HB := kp (HB.out.grow' hb_)
        replace HV := kp (HV.out.grow hb_)
        replace HG := kp (HG.out.grow hb_)
        clear hb_ hd_
        refine pl_calm rfl rfl (by exact wanted_none rfl) (fun w_ => by exact exec_build rfl BE.out w_) (fun K hK => ?_)
        go_simp
        refine hK _ _ ?_
        clear hK K
        repeat ((first | refine pl_calm rfl rfl (by first | exact wanted_none rfl | (go_simp; done) | rfl) (fun w_ => by first | (go_simp; rfl) | (go_simp; done) | rfl) (fun K hK => ?_) | refine pl_skip rfl (by first | (go_simp; done) | rfl) (fun K hK => ?_) | refine pl_skipa rfl (by first | (go_simp; done) | rfl) (fun K hK => ?_)); go_simp; refine hK _ _ ?_; clear hK K)
        refine pl_read rfl rfl (by exact wanted_none rfl) (v := .int .i64 (x : Int)) (fun w3_ hf_ => by have c9 := (HG.out.blk.grown hf_ (fun e => HG_HV.out (Option.some.inj e).symm)).at_ HG35.out; first | (go_simp; rfl) | (go_simp; done)) (fun K hK => ?_)
        go_simp
        refine hK _ _ ?_
        clear hK K
        refine pl_act rfl (by exact wanted_none rfl) (fun K hK => ?_)
        show wpList _ _ _ [⟨none, .store _ _ _, _, _, _, _⟩] _ _
        go_wp2_with (first | (with_reducible refine wpl_storeb (o := ⟨none, .store _ _ _, _, _, _, _⟩) rfl rfl row_cert HV.out.blk rfl rfl HV.out.len HCZ.out.len HCZ.out.one ?_))
        intro w2_ hb2_ hg2_ hsz2_
        go_wp2_with fail
        refine hK _ _ (fun _ => hg2_) ?_
        clear hK K
        replace HB := kp (put_below HB.out HV_g.out hg2_)
        replace HV := kp (at_mk hb2_ HCZ.out.len)
        clear hb2_ hg2_ hsz2_
        repeat ((first | refine pl_calm rfl rfl (by first | exact wanted_none rfl | (go_simp; done) | rfl) (fun w_ => by first | (go_simp; rfl) | (go_simp; done) | rfl) (fun K hK => ?_) | refine pl_skip rfl (by first | (go_simp; done) | rfl) (fun K hK => ?_) | refine pl_skipa rfl (by first | (go_simp; done) | rfl) (fun K hK => ?_)); go_simp; refine hK _ _ ?_; clear hK K)
        refine pl_done ?_
        go_wp2_with fail
        refine ret_cell_tmp rfl row_cert HV.out.blk rfl HV.out.len rfl rfl ?_
        exact ⟨none, 0, 0, by rw [(HFE.out x HX.out).1, (HFE.out x HX.out).2, HZC.out]; rfl, by rw [(HFE.out x HX.out).1]; exact Ids.none_ _, by omega, HB.out⟩
       ·skip
        have HR5 := kp hx
        have HLN_ := kp (show l5.length ≤ 1000000 from Nat.le_trans (takeR_le hx).2 HLN.out)
        have HGC := kp (show Cl 37 (gotV f 0 (.slice A2 l5.length c2)) from gotV_cl hcl rfl)
        clear HG35 HG36
        have HG35 := kp (show (gotV f 0 (.slice A2 l5.length c2))[35]? = some (.int .i64 0) from (gotV_at hcl).1)
        have HG36 := kp (show (gotV f 0 (.slice A2 l5.length c2))[36]? = some (.slice A2 l5.length c2) from (gotV_at hcl).2.1)
        have HGD := kp (show ∀ (j : Nat) (u : Value), (tg.map B)[j]? = some u → (gotV f 0 (.slice A2 l5.length c2))[3 + j]? = some u from fun j u hu => (gotV_at hcl).2.2 _ _ (by rw [show f = _ from hfv]; unfold fieldV; rw [List.getElem?_append_right (by simp)]; simpa using hu))
        have HDL := kp (show tg.length = 32 from (takeR_le hx).1)
        have HSL_ := kp (show Sl w w.heap.size 1 A2 l5.length (l5.map B) from hs2.back (HB.out.grow' hb_))
        have HCL_ := kp hc2
        obtain ⟨gv, hgv⟩ : ∃ q, q = gotV f 0 (.slice A2 l5.length c2) := ⟨_, rfl⟩
        rw [← hgv] at HGC HG35 HG36 HGD ⊢
        have HNL_ := HLN_
        obtain ⟨tl, hnl_⟩ : ∃ q, q = l5.length := ⟨_, rfl⟩
        rw [← hnl_] at HSL_ HCL_ HNL_ HG36
        have HTE := kp hnl_
        clear hr_ hx hcl hfv hs2 hc2 hgv hnl_ HSL HCL HNL HLN
        have HSL := HSL_; have HCL := HCL_; have HNL := HNL_; have HLN := HLN_
        clear HSL_ HCL_ HNL_ HLN_
        replace HV := kp (HV.out.grow hb_)
        replace HH := kp (HH.out.grow hb_)
        replace HG := kp (HG.out.grow hb_)
        replace HO := kp (HO.out.grow hb_)
        replace HB := kp (HB.out.grow' hb_)
        clear hb_
        try clear w_
        rename World => w_
        go_wp2_with (first | (with_reducible refine wpl_storeb (o := ⟨none, .store _ _ _, _, _, _, _⟩) rfl rfl row_got HG.out.blk rfl rfl HG.out.len HGC.out.len HGC.out.one ?_))
        intro w2_ hb2_ hg2_ hsz2_
        replace HB := kp (put_below HB.out HG_g.out hg2_)
        replace HV := kp (At.off HV.out hg2_ HG_HV.out)
        replace HH := kp (At.off HH.out hg2_ HG_HH.out)
        replace HO := kp (HO.out.kept HG.out.blk (by decide) hg2_)
        replace HG := kp (at_mk hb2_ HGC.out.len)
        clear hb2_ hg2_ hsz2_
        try clear w_
        rename World => w_
        have HLK := kp (lookC_o HR1.out HR2.out HI.out HR4.out HR5.out)
        have hlk2 := lookC_ok HLK.out
        have HOK0 := kp (show (⟨noEnt, ds, noHdr, tg⟩ : Cer).ok from ⟨noEnt_ok, hlk2.2.2.2.1, noHdr_ok, hlk2.2.2.2.2⟩)
        have HLEN := kp (show ds.length = i ∧ (∀ d ∈ ds, d.length = 32) from ⟨(idsR_ok _ _ _ _ HI.out).1, (idsR_ok _ _ _ _ HI.out).2.1⟩)
        have HSPL := kp (splice_c4 (v := .slice Ap i cp) (d := tg) noCer_ok HDL.out)
        clear hlk2
        have HYL := kp (dig_map HDL.out)
        obtain ⟨ys, hys⟩ : ∃ v, v = tg.map B := ⟨_, rfl⟩
        rw [← hys] at HYL HGD HSPL
        clear hys
        have HGM := kp (show ∀ (j : Nat) (u : Value), ys[j]? = some u → w_.cell? ⟨g5, 3 + j, none⟩ = some u from fun j u hu => HG.out.blk.at_ (HGD.out j u hu))
        have c35 := HG.out.blk.at_ HG35.out
        have hcl := HH.out.len
        go_wp2_with (first | (with_reducible refine wpl_loadm (o := ⟨some 87, _, _, _, _, _⟩) rfl rfl row_id HGM.out rfl HYL.out.len ?_) | (with_reducible refine wpl_storem (o := ⟨none, .store _ _ _, _, _, _, _⟩) (off := 105) rfl rfl row_id HH.out.blk rfl rfl HYL.out.len (by rw [hcl]; omega) HYL.out.one ?_))
        intro w2_ hb2_ hg2_ hsz2_
        have HB_ := kp (put_below HB.out HH_g.out hg2_)
        have HO_ := kp (HO.out.kept HH.out.blk (by decide) hg2_)
        have HH_ := kp (show At w2_ g4 35 137 (certV (.slice Ap i cp) ⟨noEnt, ds, noHdr, tg⟩) from at_mk (by rw [HSPL.out] at hb2_; exact hb2_) (certV_len HOK0.out))
        have HV_ := kp (At.off HV.out hg2_ (Nat.ne_of_lt HLT.out)); have HG_ := kp (At.off HG.out hg2_ (Nat.ne_of_gt H45.out))
        clear hb2_ hg2_ hsz2_ hcl c35 HGM HSPL
        clear HV HH HG HO HB
        have HV := HV_; have HH := HH_; have HG := HG_; have HO := HO_; have HB := HB_
        clear HV_ HH_ HG_ HO_ HB_
        try clear w_
        rename World => w_
        have c36 := HG.out.blk.at_ HG36.out
        have HP1 := kp (show tl = 0 ↔ l5 = [] by
         rw [HTE.out]
         cases l5 with
         | nil => simp
         | cons a l5 => simp)
        by_cases hn0 : tl = 0
        ·have HNI := kp (HP1.out.1 hn0)
         subst hn0
         have HRD := kp (show out = readW ⟨eb, ds, hbt, tg⟩ by rw [HOUT.out]; exact readC_w (by rw [HLK.out, HNI.out]))
         go_wp2_with fail
         refine (reread_any _ (HS5.out.grow HB.out) HC5.out (by have := HL5.out; omega)).mono ?_
         rintro e w2_ ⟨rfl, hb_⟩
         clear c36 HG HG35 HG36
         replace HV := kp (HV.out.grow hb_)
         replace HH := kp (HH.out.grow hb_)
         replace HO := kp (HO.out.grow hb_)
         replace HB := kp (HB.out.grow' hb_)
         clear hb_
         try clear w_
         rename World => w_
         obtain ⟨ee, hee⟩ : ∃ q, q = entOf (readE eb) := ⟨_, rfl⟩
         have HEE := kp hee
         have HEO := kp (show ee.ok by rw [hee]; exact entOf_ok _)
         have HEC := kp (ent_cl HEO.out)
         obtain ⟨er, her⟩ : ∃ q, q = errOf (readE eb) := ⟨_, rfl⟩
         have HER := kp her
         rw [← hee, ← her]
         have HSP1 := kp (splice_c1 (v := .slice Ap i cp) HOK0.out HEO.out)
         have HOK1 := kp (show (⟨ee, ds, noHdr, tg⟩ : Cer).ok from ⟨HEO.out, HOK0.out.2.1, noHdr_ok, HOK0.out.2.2.2⟩)
         obtain ⟨ev, hev⟩ : ∃ q, q = entV ee := ⟨_, rfl⟩
         rw [← hev] at HEC HSP1 ⊢
         clear hee her hev
         go_wp2_with (first | (with_reducible refine wpl_alloc (o := ⟨some 10, _, _, _, _, _⟩) rfl rfl zero_entry ?_))
         intro w2_ hb2_ hb_ hsz2_
         have HX_ := kp (at_mk hb2_ len_entry)
         clear hb2_ hsz2_
         have HG_ := kp HB.out.size
         have HE_HV := kp (Nat.ne_of_lt HV.out.lt)
         have HE_HH := kp (Nat.ne_of_lt HH.out.lt)
         replace HB := kp (HB.out.grow' hb_)
         replace HV := kp (HV.out.grow hb_)
         replace HH := kp (HH.out.grow hb_)
         replace HO := kp (HO.out.grow hb_)
         generalize hg_ : w_.heap.size = g10 at HX_ HG_ HE_HV HE_HH ⊢
         clear hg_
         have HE_g := HG_
         clear HG_
         have HE := HX_
         clear hb_ HX_
         try clear w_
         rename World => w_
         go_wp2_with (first | (with_reducible refine wpl_storeb (o := ⟨none, .store _ _ _, _, _, _, _⟩) rfl rfl row_entry HE.out.blk rfl rfl HE.out.len HEC.out.len HEC.out.one ?_))
         intro w2_ hb2_ hg2_ hsz2_
         replace HB := kp (put_below HB.out HE_g.out hg2_)
         replace HV := kp (At.off HV.out hg2_ HE_HV.out)
         replace HH := kp (At.off HH.out hg2_ HE_HH.out)
         replace HO := kp (HO.out.kept HE.out.blk (by decide) hg2_)
         replace HE := kp (at_mk hb2_ HEC.out.len)
         clear hb2_ hg2_ hsz2_
         try clear w_
         rename World => w_
         by_cases he0 : er = 0
         ·subst he0
          go_wp2_with fail
          refine (rhread_any _ (HS6.out.grow HB.out) HC6.out (by have := HL6.out; omega)).mono ?_
          rintro e w2_ ⟨rfl, hb_⟩
          replace HV := kp (HV.out.grow hb_)
          replace HH := kp (HH.out.grow hb_)
          replace HE := kp (HE.out.grow hb_)
          replace HO := kp (HO.out.grow hb_)
          replace HB := kp (HB.out.grow' hb_)
          clear hb_
          try clear w_
          rename World => w_
          obtain ⟨hh, hhh⟩ : ∃ q, q = hdrOf (readH hbt) := ⟨_, rfl⟩
          have HHE := kp hhh
          have HHO := kp (show hh.ok by rw [hhh]; exact hdrOf_ok _)
          have HHC := kp (hdr_cl HHO.out)
          obtain ⟨ex, hex⟩ : ∃ q, q = errOf (readH hbt) := ⟨_, rfl⟩
          have HEX := kp hex
          rw [← hhh, ← hex]
          have HSP2 := kp (splice_c3 (v := .slice Ap i cp) HOK1.out HHO.out)
          have HOK2 := kp (show (⟨ee, ds, hh, tg⟩ : Cer).ok from ⟨HEO.out, HOK0.out.2.1, HHO.out, HOK0.out.2.2.2⟩)
          obtain ⟨hv, hhv⟩ : ∃ q, q = hdrV hh := ⟨_, rfl⟩
          rw [← hhv] at HHC HSP2 ⊢
          clear hhh hex hhv
          go_wp2_with (first | (with_reducible refine wpl_alloc (o := ⟨some 12, _, _, _, _, _⟩) rfl rfl zero_hd ?_))
          intro w2_ hb2_ hb_ hsz2_
          have HX_ := kp (at_mk hb2_ len_hd)
          clear hb2_ hsz2_
          have HG_ := kp HB.out.size
          have HD_HV := kp (Nat.ne_of_lt HV.out.lt)
          have HD_HH := kp (Nat.ne_of_lt HH.out.lt)
          have HD_HE := kp (Nat.ne_of_lt HE.out.lt)
          replace HB := kp (HB.out.grow' hb_)
          replace HV := kp (HV.out.grow hb_)
          replace HH := kp (HH.out.grow hb_)
          replace HE := kp (HE.out.grow hb_)
          replace HO := kp (HO.out.grow hb_)
          generalize hg_ : w_.heap.size = g12 at HX_ HG_ HD_HV HD_HH HD_HE ⊢
          clear hg_
          have HD_g := HG_
          clear HG_
          have HD := HX_
          clear hb_ HX_
          try clear w_
          rename World => w_
          go_wp2_with (first | (with_reducible refine wpl_storeb (o := ⟨none, .store _ _ _, _, _, _, _⟩) rfl rfl row_hd HD.out.blk rfl rfl HD.out.len HHC.out.len HHC.out.one ?_))
          intro w2_ hb2_ hg2_ hsz2_
          replace HB := kp (put_below HB.out HD_g.out hg2_)
          replace HV := kp (At.off HV.out hg2_ HD_HV.out)
          replace HH := kp (At.off HH.out hg2_ HD_HH.out)
          replace HE := kp (At.off HE.out hg2_ HD_HE.out)
          replace HO := kp (HO.out.kept HD.out.blk (by decide) hg2_)
          replace HD := kp (at_mk hb2_ HHC.out.len)
          clear hb2_ hg2_ hsz2_
          try clear w_
          rename World => w_
          have HSOK := kp (show ex = 0 → out = .ok ⟨ee, ds, hh, tg⟩ from fun h0 => by
           rcases readW_cases ⟨eb, ds, hbt, tg⟩ with ⟨x, h1, h2, h3⟩ | ⟨e, x, h1, h2, h3, h4⟩ | ⟨e, h, h1, h2, h3⟩
           ·exact absurd (h1.symm.trans HER.out.symm) (fun h => h2 h)
           ·exact absurd ((h2.symm.trans HEX.out.symm).trans h0) h3
           ·rw [HRD.out, h3, HEE.out, HHE.out, h1, h2]; rfl)
          have HSNO := kp (show ex ≠ 0 → out = .error ex from fun h0 => by
           rcases readW_cases ⟨eb, ds, hbt, tg⟩ with ⟨x, h1, h2, h3⟩ | ⟨e, x, h1, h2, h3, h4⟩ | ⟨e, h, h1, h2, h3⟩
           ·exact absurd (h1.symm.trans HER.out.symm) (fun h => h2 h)
           ·rw [HRD.out, h4, HEX.out, h2]
           ·exact absurd (HEX.out.trans (by rw [h2]; rfl)) h0)
          by_cases hx0 : ex = 0
          ·have hok := HSOK.out hx0
           subst hx0
           have HCL2 := kp (cert_cl (v := .slice Ap i cp) rfl HOK2.out)
           have HFIN := kp (show cerOf out = ⟨ee, ds, hh, tg⟩ ∧ errOf out = 0 by rw [hok]; exact ⟨rfl, rfl⟩)
           clear hok
           have hcl := HH.out.len
           go_wp2_with (first | (with_reducible refine wpl_loadb (o := ⟨some 112, _, _, _, _, _⟩) rfl rfl row_entry HE.out.blk rfl HE.out.len ?_) | (with_reducible refine wpl_storem (o := ⟨none, .store _ _ _, _, _, _, _⟩) (off := 0) rfl rfl row_entry HH.out.blk rfl rfl HEC.out.len (by rw [hcl]; omega) HEC.out.one ?_))
           intro w2_ hb2_ hg2_ hsz2_
           have HB_ := kp (put_below HB.out HH_g.out hg2_)
           have HO_ := kp (HO.out.kept HH.out.blk (by decide) hg2_)
           have HH_ := kp (show At w2_ g4 35 137 (certV (.slice Ap i cp) ⟨ee, ds, noHdr, tg⟩) from at_mk (by rw [HSP1.out] at hb2_; exact hb2_) (certV_len HOK1.out))
           have HV_ := kp (At.off HV.out hg2_ (Nat.ne_of_lt HLT.out)); have HD_ := kp (At.off HD.out hg2_ (Ne.symm HD_HH.out))
           clear hb2_ hg2_ hsz2_ hcl HE
           clear HV HH HD HO HB
           have HV := HV_; have HH := HH_; have HD := HD_; have HO := HO_; have HB := HB_
           clear HV_ HH_ HD_ HO_ HB_
           try clear w_
           rename World => w_
           have hcl := HH.out.len
           go_wp2_with (first | (with_reducible refine wpl_loadb (o := ⟨some 114, _, _, _, _, _⟩) rfl rfl row_hd HD.out.blk rfl HD.out.len ?_) | (with_reducible refine wpl_storem (o := ⟨none, .store _ _ _, _, _, _, _⟩) (off := 38) rfl rfl row_hd HH.out.blk rfl rfl HHC.out.len (by rw [hcl]; omega) HHC.out.one ?_))
           intro w2_ hb2_ hg2_ hsz2_
           have HB_ := kp (put_below HB.out HH_g.out hg2_)
           have HO_ := kp (HO.out.kept HH.out.blk (by decide) hg2_)
           have HH_ := kp (show At w2_ g4 35 137 (certV (.slice Ap i cp) ⟨ee, ds, hh, tg⟩) from at_mk (by rw [HSP2.out] at hb2_; exact hb2_) (certV_len HOK2.out))
           have HV_ := kp (At.off HV.out hg2_ (Nat.ne_of_lt HLT.out))
           clear hb2_ hg2_ hsz2_ hcl HD
           clear HV HH HO HB
           have HV := HV_; have HH := HH_; have HO := HO_; have HB := HB_
           clear HV_ HH_ HO_ HB_
           try clear w_
           rename World => w_
           obtain ⟨cv, hcv⟩ : ∃ q, q = certV (.slice Ap i cp) ⟨ee, ds, hh, tg⟩ := ⟨_, rfl⟩
           have HCV := kp hcv
           rw [← hcv] at HH HCL2
           clear hcv
           go_wp2_with (first | (with_reducible refine wpl_loadb (o := ⟨some 116, _, _, _, _, _⟩) rfl rfl row_cert HH.out.blk rfl HCL2.out.len ?_) | (with_reducible refine wpl_storeb (o := ⟨none, .store _ _ _, _, _, _, _⟩) rfl rfl row_cert HV.out.blk rfl rfl HV.out.len HCL2.out.len HCL2.out.one ?_))
           intro w2_ hb2_ hg2_ hsz2_
           have HV_ := kp hb2_
           have HO_ := kp (HO.out.kept HV.out.blk (by decide) hg2_)
           have HB_ := kp (put_below HB.out HV_g.out hg2_)
           clear hb2_ hg2_ hsz2_
           go_wp2_with fail
           refine ret_cell_tmp rfl row_cert HV_.out rfl HCL2.out.len rfl rfl ?_
           exact ⟨Ap, i, cp, by rw [HFIN.out.1, HFIN.out.2, ← HCV.out]; rfl, by rw [HFIN.out.1]; exact Ids.own HO_.out HLEN.out.1 HLEN.out.2 (own_cap HO_.out), by have := HVM.out; omega, HB_.out⟩
          ·obtain ⟨h1, h2⟩ := HW0.out ex (HSNO.out hx0)
           have HF1 := kp h1; have HF2 := kp h2
           have d0 : ((ex : Int) != 0) = true := by simp; omega
           clear h1 h2
           go_wp2_with (first | (with_reducible refine wpl_stop (o := ⟨some 110, _, _, _, _, _⟩) ?_))
           refine stop_go ?_
           refine wpl_build rfl rfl BE.out ?_
           go_wp2_with (first | (with_reducible refine wpl_storeb (o := ⟨none, .store _ _ _, _, _, _, _⟩) rfl rfl row_cert HV.out.blk rfl rfl HV.out.len HCZ.out.len HCZ.out.one ?_))
           intro w2_ hb2_ hg2_ hsz2_
           have HV_ := kp hb2_
           have HB_ := kp (put_below HB.out HV_g.out hg2_)
           clear hb2_ hg2_ hsz2_
           go_wp2_with fail
           refine ret_cell_tmp rfl row_cert HV_.out rfl HCZ.out.len rfl rfl ?_
           exact ⟨none, 0, 0, by rw [HF1.out, HF2.out, HZC.out]; rfl, by rw [HF1.out]; exact Ids.none_ _, by omega, HB_.out⟩
         ·have hno := (show out = .error er by
           rcases readW_cases ⟨eb, ds, hbt, tg⟩ with ⟨x, h1, h2, h3⟩ | ⟨e, x, h1, h2, h3, h4⟩ | ⟨e, h, h1, h2, h3⟩
           ·rw [HRD.out, h3, HER.out, h1]
           ·exact absurd (HER.out.trans (by rw [h1]; rfl)) he0
           ·exact absurd (HER.out.trans (by rw [h1]; rfl)) he0)
          obtain ⟨h1, h2⟩ := HW0.out er hno
          have HF1 := kp h1; have HF2 := kp h2
          have d0 : ((er : Int) != 0) = true := by simp; omega
          clear h1 h2 hno
          go_wp2_with (first | (with_reducible refine wpl_stop (o := ⟨some 101, _, _, _, _, _⟩) ?_))
          refine stop_go ?_
          refine wpl_build rfl rfl BE.out ?_
          go_wp2_with (first | (with_reducible refine wpl_storeb (o := ⟨none, .store _ _ _, _, _, _, _⟩) rfl rfl row_cert HV.out.blk rfl rfl HV.out.len HCZ.out.len HCZ.out.one ?_))
          intro w2_ hb2_ hg2_ hsz2_
          have HV_ := kp hb2_
          have HB_ := kp (put_below HB.out HV_g.out hg2_)
          clear hb2_ hg2_ hsz2_
          go_wp2_with fail
          refine ret_cell_tmp rfl row_cert HV_.out rfl HCZ.out.len rfl rfl ?_
          exact ⟨none, 0, 0, by rw [HF1.out, HF2.out, HZC.out]; rfl, by rw [HF1.out]; exact Ids.none_ _, by omega, HB_.out⟩
        ·obtain ⟨h1, h2⟩ := HW0.out 3 (HOUT.out.trans (readC_more HLK.out (fun h => hn0 (HP1.out.2 h))))
         have HF1 := kp h1; have HF2 := kp h2
         have d0 : decide ((0 : Int) < (tl : Int)) = true := by simp; omega
         clear h1 h2
         go_wp2_with (first | (with_reducible refine wpl_stop (o := ⟨some 93, _, _, _, _, _⟩) ?_))
         refine stop_go ?_
         refine wpl_build rfl rfl BE.out ?_
         go_wp2_with (first | (with_reducible refine wpl_storeb (o := ⟨none, .store _ _ _, _, _, _, _⟩) rfl rfl row_cert HV.out.blk rfl rfl HV.out.len HCZ.out.len HCZ.out.one ?_))
         intro w2_ hb2_ hg2_ hsz2_
         have HV_ := kp hb2_
         have HB_ := kp (put_below HB.out HV_g.out hg2_)
         clear hb2_ hg2_ hsz2_
         go_wp2_with fail
         refine ret_cell_tmp rfl row_cert HV_.out rfl HCZ.out.len rfl rfl ?_
         exact ⟨none, 0, 0, by rw [HF1.out, HF2.out, HZC.out]; rfl, by rw [HF1.out]; exact Ids.none_ _, by omega, HB_.out⟩
end Go.Proofs.YtphmefhnffoafaaGreatDoor

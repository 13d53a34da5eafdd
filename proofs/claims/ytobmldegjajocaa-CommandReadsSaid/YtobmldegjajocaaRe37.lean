/- The document's eye on a command: one field taken. -/
import Derived.Test.YtobmldegjajocaaRe36
import Derived.Test.YtobmldegjajocaaRe25
set_option linter.unusedSimpArgs false
set_option linter.unusedVariables false
set_option maxRecDepth 100000
set_option maxHeartbeats 16000000
namespace Go.Proofs.Ytobmldegjajocaa
open Go.RowKit Go.Shelf
def EyY (w : World) (Bd g : Nat) (s : YS) : Prop := ∃ A c, Blk w g 91 [.slice A s.1.length c, .int .i64 (s.2 : Int)] ∧ Sl w Bd 1 A s.1.length (s.1.map B) ∧ s.1.length ≤ c ∧ Bd ≤ g ∧ s.1.length ≤ 1000000
section
variable {w w' : World} {Bd g : Nat} {s : YS}
theorem EyY.off {q : Nat} (h : EyY w Bd g s) (k : w.grownBy w' (some q)) (hq : Bd ≤ q) (hne : g ≠ q) : EyY w' Bd g s := by
 obtain ⟨A, c, h1, h2, h3, h4, h5⟩ := h;have := h1.lt;exact ⟨A, c, h1.grown k (fun e => hne (Option.some.inj e)), h2.grown k (by omega) (fun i e => by injection e with e; omega), h3, h4, h5⟩
theorem EyY.grow (h : EyY w Bd g s) (k : Grow w w') : EyY w' Bd g s := by
 obtain ⟨A, c, h1, h2, h3, h4, h5⟩ := h;have := h1.lt;exact ⟨A, c, h1.grow k, h2.below (k.mono (by omega)), h3, h4, h5⟩
theorem EyY.row {Z : Nat} {A : Option Addr} (h : EyY w Bd g s) (k : w.grownBy w' (A.map Addr.block)) (hA : ∀ q, A.map Addr.block = some q → Z ≤ q) (hZ : g < Z) : EyY w' Bd g s := by
 obtain ⟨A1, c, h1, h2, h3, h4, h5⟩ := h;have := h1.lt;exact ⟨A1, c, h1.grown k (fun e => by have := hA g e.symm; omega), h2.grown k (by omega) (fun i e => by have := hA i e; omega), h3, h4, h5⟩
theorem EyY.lt (h : EyY w Bd g s) : g < w.heap.size := by obtain ⟨A, c, h1, _⟩ := h; exact h1.lt
end
def Outc {α : Type} (R : List UInt8 → Re α) (fv : α → World → List Value → Prop) (l : List UInt8) (w : World) (f : List Value) (s' : YS) : Prop := (∃ x, R l = .error x ∧ s' = ([], x) ∧ f = noF) ∨ ∃ v t, R l = .ok (v, t) ∧ s' = (t, 0) ∧ fv v w f
theorem got_out {α : Type} {R : List UInt8 → Re α} {fv : α → World → List Value → Prop} {Bd : Nat} {l : List UInt8} {w w' : World} {e : Ending} (h : GotR (R l) fv Bd w w' e) (hl : l.length ≤ 1000000) (hR : ∀ l v t, R l = .ok (v, t) → t.length ≤ l.length) :
  ∃ (f : List Value) (s' : YS) (A2 : Option Addr) (c2 : Nat), e = .returned (.agg (gotV f ((s'.2 : Nat) : Int) (.slice A2 s'.1.length c2)).toArray) ∧ Cl 35 f ∧ Sl w' Bd 1 A2 s'.1.length (s'.1.map B) ∧ s'.1.length ≤ c2 ∧ s'.1.length ≤ 1000000 ∧ Outc R fv l w' f s' ∧ Grow w w' := by
 obtain ⟨y_, ⟨x, hx, rfl⟩ | ⟨v, t, f, A2, c2, hx, rfl, hcl, hfv, hs2, hc2⟩⟩ := h.get
 ·exact ⟨noF, ([], x), none, 0, rfl, noF_cl, Sl.nil, Nat.le_refl _, by simp, .inl ⟨x, hx, rfl, rfl⟩, y_⟩
 ·exact ⟨f, (t, 0), A2, c2, rfl, hcl, hs2, hc2, Nat.le_trans (hR _ _ _ hx) hl, .inr ⟨v, t, hx, rfl, hfv⟩, y_⟩
def TkMid (w wr : World) (Bd g gi : Nat) (l : List UInt8) (P : World → List Value → YS → Prop) : Prop := ∃ (f : List Value) (s' : YS) (A2 : Option Addr) (c2 : Nat), Blk wr gi 142 (gotV f ((s'.2 : Nat) : Int) (.slice A2 s'.1.length c2)) ∧ Cl 35 f ∧ Sl wr Bd 1 A2 s'.1.length (s'.1.map B) ∧ s'.1.length ≤ c2 ∧ s'.1.length ≤ 1000000 ∧ P wr f s' ∧ Grow w wr ∧ w.heap.size ≤ gi
theorem off_below {Bd g : Nat} {w1 w2 : World} (k : w1.grownBy w2 (some g)) (hb : Bd ≤ g) (hz : Bd ≤ w1.heap.size) : ∀ p : Addr, p.block < Bd → w2.cell? p = w1.cell? p := fun p hp => World.cell?_of_block (k.block p.block (by omega) (fun e => by injection e with e; omega))
theorem etake_any {α : Type} {Bd g : Nat} {s : YS} {F : List Value} {R : List UInt8 → Re α} {fv : α → World → List Value → Prop} (hF : Cl 35 F)
  (T : ∀ (A : Option Addr) (n c : Nat) (l : List UInt8) (w : World), Sl w Bd 1 A n (l.map B) → Bd ≤ w.heap.size → n ≤ c → n ≤ 1000000 → Calls Try.prog 80 #[.slice A n c, .agg F.toArray] w fun e w' => GotR (R l) fv Bd w w' e)
  (hR : ∀ l v t, R l = .ok (v, t) → t.length ≤ l.length) (hfv : ∀ w1 w2 v f, fv v w1 f → (∀ p : Addr, p.block < Bd → w2.cell? p = w1.cell? p) → fv v w2 f) (w : World) (h : EyY w Bd g s) :
  Calls Try.prog 43 #[.pointer (some ⟨g, 0, none⟩), .agg F.toArray] w fun e w' => ∃ (f : List Value) (s' : YS), e = .returned (.agg f.toArray) ∧ Cl 35 f ∧ EyY w' Bd g s' ∧ w.grownBy w' (some g) ∧ ((s.2 ≠ 0 ∧ s' = s ∧ f = noF) ∨ (s.2 = 0 ∧ Outc R fv s.1 w' f s')) := by
 obtain ⟨l, er⟩ := s;obtain ⟨A, c, h1, h2, h3, h4, h5⟩ := h;simp only at h1 h2 h3 h5;have HS := kp h2; have HC := kp h3; have HBG := kp h4; have HL := kp h5;have HBD := kq (Bd ≤ w.heap.size) (by have := h1.lt; omega);have HF := kp hF;have HTK := kp (fun (A : Option Addr) (n c : Nat) (w : World) hs hb hc hn => (T A n c l w hs hb hc hn).mono fun e w' k => got_out k h5 hR)
 have HFV := kp (show ∀ w1 w2 f s', Outc R fv l w1 f s' → (∀ p : Addr, p.block < Bd → w2.cell? p = w1.cell? p) → Outc R fv l w2 f s' from fun w1 w2 f s' k hk => by
  rcases k with k | ⟨v, t, k1, k2, k3⟩
  ·exact .inl k
  ·exact .inr ⟨v, t, k1, k2, hfv _ _ _ _ k3 hk⟩)
 have BF := kq (Try.prog.built 93 [] = some noF.toArray) (by kernel_rfl);have HZF := kp noF_cl;have ZF := kp zero_fld;obtain ⟨ll, hll⟩ := xe l.length;have HLL := kp hll;rw [← hll] at h1 HS HC HL;obtain ⟨zf, hzf⟩ := xe noF;have HZE := kp hzf;rw [← hzf] at BF HZF ZF;have hy := at_mk (n := 2) h1 rfl;obtain ⟨w_, hw⟩ := xe w;have HB := kq (Below w.heap.size w w_) (by rw [hw]; exact Below.refl _ _);have HY := kq (At w_ g 91 2 [.slice A ll c, .int .i64 (er : Int)]) (by rw [hw]; exact hy);obtain ⟨PP, hPP⟩ : ∃ P : Ending → World → Prop, P = fun e w' => ∃ (f : List Value) (s' : YS), e = .returned (.agg f.toArray) ∧ Cl 35 f ∧ EyY w' Bd g s' ∧ w.grownBy w' (some g) ∧ (((l, er) : YS).2 ≠ 0 ∧ s' = (l, er) ∧ f = noF ∨ ((l, er) : YS).2 = 0 ∧ Outc R fv ((l, er) : YS).1 w' f s') := ⟨_, rfl⟩
 have HPP := kp hPP
 suffices H : Calls Try.prog 43 #[.pointer (some ⟨g, 0, none⟩), .agg F.toArray] w_ PP by rw [hw, hPP] at H; exact H
 clear hw hPP hy h1 h2 h3 h4 h5 hll hzf hF T hR hfv
 go_enter Try.func43, Try.ntmps43
 go_wp2_with (with_reducible refine wbx 3 ?_);intro v_ b_ y_ s_;have HX_ := kp (at_mk b_ HF.o.len);clear b_ s_;have HG_ := kp HB.o.size;have HX_HY := kp (Nat.ne_of_lt HY.o.lt);replace HB := kp (HB.o.grow' y_);replace HY := kp (HY.o.grow y_);generalize hg_ : w_.heap.size = g3 at HX_ HG_ HX_HY ⊢;clear hg_;have HX_g := HG_;clear HG_;have HX := HX_;clear y_ HX_;try clear w_
 rename World => w_;go_wp2_with (with_reducible refine wal 4 ZF.o ?_);intro v_ b_ y_ s_;have HV := kp (at_mk b_ HZF.o.len);have HVG := kp HB.o.size;have HVX := kp (Nat.ne_of_gt HX.o.lt); have HVY := kp (Nat.ne_of_gt HY.o.lt);generalize hg_ : w_.heap.size = g4 at HV HVG HVX HVY ⊢;clear b_ s_ hg_;have y_ := y_;clear y_;replace HB := kp (HB.o.grow' y_);replace HX := kp (HX.o.grow y_);replace HY := kp (HY.o.grow y_);clear y_;try clear w_
 rename World => w_;have c1 := HY.o.blk.at_ (i := 1) rfl;by_cases h0 : er = 0
 ·have z1 : ((er : Int) != 0) = false := by simp [h0]
  have H0 := kp h0;clear h0
  go_upto_region 3 with fail
  clear z1 c1
  go_cut [5] from 6 (fun s5 wr => ∃ gi, s5 = .pointer (some ⟨gi, 0, none⟩) ∧ Hid (gi ≠ g ∧ gi ≠ g4) ∧ Hid (At wr g4 93 35 zf) ∧ Hid (Blk wr g 91 [.slice A ll c, .int .i64 (er : Int)]) ∧ Hid (TkMid w wr Bd g gi l (Outc R fv l)))
  case first =>
   have ZG := kp zero_got;obtain ⟨zg, hzg⟩ := xe (gotV noF 0 nilS);have HZG := kq (zg.length = 37) (by rw [hzg]; exact len_got);rw [← hzg] at ZG;clear hzg;try go_wp2_with fail
   repeat' (first | (with_reducible refine wpp (id := 3) Grow [0,0,0,1,1,3,4,3] (.get 0 (.get 1 (.get 2 (.get 3 (.get 4 (.fork 5 (.act 6 (.act 7 .done)) (.act 6 (.act 5 (.act 7 .done))))))))) Grow.refl Grow.trans ?_) | go_values | go_skip | go_guarded | go_step | go_upon | go_back)
   intro w_ hd_;have y_ := hd_.grow;replace HB := kp (HB.o.grow' y_);replace HX := kp (HX.o.grow y_);replace HY := kp (HY.o.grow y_);replace HV := kp (HV.o.grow y_);clear y_ hd_;have c0 := HY.o.blk.at_ (i := 0) rfl;repeat (first | (refine pl_loadb rfl rfl (by first | exact wanted_none rfl | (go_simp; done) | rfl) rfl row_fld HX.o.blk (by first | rfl | (go_simp; done) | rfl) HX.o.len (fun K hK => ?_); go_simp; refine hK _ _ ?_; clear hK K) | (refine pl_loadbnow rfl rfl (by first | exact wanted_none rfl | (go_simp; done) | rfl) rfl row_fld HX.o.blk (by first | rfl | (go_simp; done) | rfl) HX.o.len (fun K hK => ?_); go_simp; refine hK _ _ ?_; clear hK K) | (refine plc (fun K hK => ?_); go_simp; refine hK _ _ ?_; clear hK K) | (refine pls (fun K hK => ?_); go_simp; refine hK _ _ ?_; clear hK K) | (refine psa (fun K hK => ?_); go_simp; refine hK _ _ ?_; clear hK K) | (refine pl_load rfl rfl (by first | exact wanted_none rfl | (go_simp; done) | rfl) rfl (by first | rfl | (go_simp; rfl)) (by kernel_rfl) (by first | exact c0) (fun K hK => ?_); go_simp; refine hK _ _ ?_; clear hK K) | (refine pl_loadnow rfl rfl (by first | exact wanted_none rfl | (go_simp; done) | rfl) rfl (by first | rfl | (go_simp; rfl)) (by kernel_rfl) (by first | exact c0) (fun K hK => ?_); go_simp; refine hK _ _ ?_; clear hK K))
   clear c0;have HCALL := kp (fun (w2 : World) (hg : Grow w_ w2) => HTK.o A ll c w2 (HS.o.below ((HB.o.grow' hg).mono HBD.o)) (Nat.le_trans HBD.o ((HB.o.grow' hg).size)) HC.o HL.o);obtain ⟨w0, hw0⟩ := xe w_;rw [← hw0] at HCALL;have HGR := kq (Grow w0 w_) (by rw [hw0]; exact Grow.refl _);clear hw0;refine pl_fork rfl (by exact wanted_none rfl) (fun K hK => ?_) ?_
   ·go_wp2_with fail;refine (HCALL.o _ HGR.o).mono ?_;rintro e v_ ⟨f, s', A2, c2, rfl, k1, k2, k3, k4, k5, y_⟩;have K1 := kp k1; have K2 := kp k2; have K3 := kp k3; have K4 := kp k4; have K5 := kp k5;have HGC := kp (gotV_cl (e := (s'.2 : Int)) (l := .slice A2 s'.1.length c2) k1 rfl);obtain ⟨gv, hgv⟩ := xe (gotV f (s'.2 : Int) (.slice A2 s'.1.length c2));have HGV := kp hgv;rw [← hgv] at HGC ⊢;clear hgv;go_wp2_with fail;refine hK _ _ (fun _ => y_) ?_;clear hK K k1 k2 k3 k4 k5 HGR HCALL;have KZ := kq (Bd ≤ w_.heap.size) (Nat.le_trans HBD.o HB.o.size);have y_ := y_;clear y_;replace HB := kp (HB.o.grow' y_);replace HX := kp (HX.o.grow y_);replace HY := kp (HY.o.grow y_);replace HV := kp (HV.o.grow y_);clear y_;try clear w_
    rename World => w_;refine pac (fun K hK => ?_);show wpList _ _ _ [⟨some _, .alloc _, _, _, _, _⟩] _ _
    go_wp2_with (with_reducible refine wal 5 ZG.o ?_);intro v_ b_ y_ s_;have HI := kp (at_mk b_ HZG.o);have HIG := kp HB.o.size;have HIY := kp (Nat.ne_of_gt HY.o.lt); have HIV := kp (Nat.ne_of_gt HV.o.lt);have K2_ := kp (K2.o.below (y_.mono (Nat.le_trans HBD.o HB.o.size)));have K5_ := kp (HFV.o _ _ _ _ K5.o (fun p hp => y_.cell (Nat.lt_of_lt_of_le hp (Nat.le_trans HBD.o HB.o.size))));generalize hg_ : w_.heap.size = gi at HI HIG HIY HIV ⊢;go_wp2_with fail;refine hK _ _ (fun _ => y_) ?_;clear hK K b_ s_ hg_ K2 K5 KZ;have y_ := y_;clear y_;replace HB := kp (HB.o.grow' y_);replace HX := kp (HX.o.grow y_);replace HY := kp (HY.o.grow y_);replace HV := kp (HV.o.grow y_);clear y_;try clear w_
    rename World => w_;refine pac (fun K hK => ?_);show wpList _ _ _ [⟨none, .store _ _ _, _, _, _, _⟩] _ _
    go_wp2_with (with_reducible refine wsb row_got HI.o.blk HI.o.len HGC.o.len HGC.o.one ?_);intro v_ b_ g_ s_;have hBg : Bd ≤ gi := Nat.le_trans HBD.o HIG.o;have hBw : Bd ≤ w_.heap.size := Nat.le_trans HBD.o HB.o.size;have HM := kq (TkMid w v_ Bd g gi l (Outc R fv l)) ⟨f, s', A2, c2, by rw [← HGV.o]; exact b_, K1.o, K2_.o.keep (off_below g_ hBg hBw), K3.o, K4.o, HFV.o _ _ _ _ K5_.o (off_below g_ hBg hBw), put_below HB.o HIG.o g_, HIG.o⟩;have HY_ := kp (At.off HY.o g_ (fun e => HIY.o e.symm)); have HV_ := kp (At.off HV.o g_ (fun e => HIV.o e.symm));clear b_ s_;go_wp2_with fail;refine hK _ _ (fun h => by cases h) ?_;clear hK K g_;refine pl_done ?_;go_wp2_with fail
    go_meet
    case rel => exact ⟨gi, rfl, kp ⟨HIY.o, HIV.o⟩, HV_, kp HY_.o.blk, HM⟩
   ·refine pac (fun K hK => ?_);show wpList _ _ _ [⟨some _, .alloc _, _, _, _, _⟩] _ _
    go_wp2_with (with_reducible refine wal 5 ZG.o ?_);intro v_ b_ y_ s_;have HI := kp (at_mk b_ HZG.o);have HIG := kp HB.o.size;have HIY := kp (Nat.ne_of_gt HY.o.lt); have HIV := kp (Nat.ne_of_gt HV.o.lt);have HGR_ := kp (HGR.o.grow' y_);generalize hg_ : w_.heap.size = gi at HI HIG HIY HIV ⊢;go_wp2_with fail;refine hK _ _ (fun _ => y_) ?_;clear hK K b_ s_ hg_ HGR;have y_ := y_;clear y_;replace HB := kp (HB.o.grow' y_);replace HX := kp (HX.o.grow y_);replace HY := kp (HY.o.grow y_);replace HV := kp (HV.o.grow y_);clear y_;try clear w_
    rename World => w_;refine pac (fun K hK => ?_);go_wp2_with fail;refine (HCALL.o _ HGR_.o).mono ?_;rintro e v_ ⟨f, s', A2, c2, rfl, k1, k2, k3, k4, k5, y_⟩;have K1 := kp k1; have K2 := kp k2; have K3 := kp k3; have K4 := kp k4; have K5 := kp k5;have HGC := kp (gotV_cl (e := (s'.2 : Int)) (l := .slice A2 s'.1.length c2) k1 rfl);obtain ⟨gv, hgv⟩ := xe (gotV f (s'.2 : Int) (.slice A2 s'.1.length c2));have HGV := kp hgv;rw [← hgv] at HGC ⊢;clear hgv;go_wp2_with fail;refine hK _ _ (fun _ => y_) ?_;clear hK K k1 k2 k3 k4 k5 HGR_ HCALL;have y_ := y_;clear y_;replace HB := kp (HB.o.grow' y_);replace HX := kp (HX.o.grow y_);replace HY := kp (HY.o.grow y_);replace HV := kp (HV.o.grow y_);replace HI := kp (HI.o.grow y_);clear y_;try clear w_
    rename World => w_;refine pac (fun K hK => ?_);show wpList _ _ _ [⟨none, .store _ _ _, _, _, _, _⟩] _ _
    go_wp2_with (with_reducible refine wsb row_got HI.o.blk HI.o.len HGC.o.len HGC.o.one ?_);intro v_ b_ g_ s_;have hBg : Bd ≤ gi := Nat.le_trans HBD.o HIG.o;have hBw : Bd ≤ w_.heap.size := Nat.le_trans HBD.o HB.o.size;have HM := kq (TkMid w v_ Bd g gi l (Outc R fv l)) ⟨f, s', A2, c2, by rw [← HGV.o]; exact b_, K1.o, K2.o.keep (off_below g_ hBg hBw), K3.o, K4.o, HFV.o _ _ _ _ K5.o (off_below g_ hBg hBw), put_below HB.o HIG.o g_, HIG.o⟩;have HY_ := kp (At.off HY.o g_ (fun e => HIY.o e.symm)); have HV_ := kp (At.off HV.o g_ (fun e => HIV.o e.symm));clear b_ s_;go_wp2_with fail;refine hK _ _ (fun h => by cases h) ?_;clear hK K g_;refine pl_done ?_;go_wp2_with fail
    go_meet
    case rel => exact ⟨gi, rfl, kp ⟨HIY.o, HIV.o⟩, HV_, kp HY_.o.blk, HM⟩
  case rest =>
   obtain ⟨gi, rfl, hne, hv, hy, hm⟩ := hcut;clear HX HY HV HB HVX;obtain ⟨f, s', A2, c2, m1, m2, m3, m4, m5, m6, m7, m8⟩ := hm.o;obtain ⟨t, e2⟩ := s';simp only at m1 m3 m4 m5;have HY := kp hy.o; have HV := kp hv.o; have HI := kp m1; have HQA := kp (gotV_at (e := (e2 : Int)) (l := .slice A2 t.length c2) m2);have M2 := kp m2; have M3 := kp m3; have M4 := kp m4; have M5 := kp m5; have M6 := kp m6; have M7 := kp m7; have HNE := kp hne.o;have HFA := kq (∀ j u, f[j]? = some u → (gotV f (e2 : Int) (.slice A2 t.length c2))[0 + j]? = some u) (fun j u hu => by rw [Nat.zero_add]; exact (gotV_at m2).2.2 j u hu);obtain ⟨tl, htl⟩ := xe t.length;have HTL := kp htl;rw [← htl] at HI HQA HFA M3 M4 M5;obtain ⟨gv, hgv⟩ := xe (gotV f (e2 : Int) (.slice A2 tl c2));rw [← hgv] at HI HQA HFA;clear hgv htl m1 m2 m3 m4 m5 m6 m7 m8 hm hv hy hne;clear w_;rename World => w_;have c36 := HI.o.at_ (i := 36) HQA.o.2.1;go_wp2_with (first | (refine wpl_store1 (o := ⟨none, .store _ _ _, _, _, _, _⟩) rfl rfl HY.o rfl rfl (by kernel_rfl) rfl rfl (by simp) ?_));intro v_ b_ g_ s_;have HG := kp (grownBy_trans (grown_of_below M7.o (some g)) g_);have HY_ := kq (Blk v_ g 91 [.slice A2 tl c2, .int .i64 (er : Int)]) b_;have HI_ := kp (HI.o.grown g_ (fun e => HNE.o.1 (Option.some.inj e))); have HV_ := kp (At.off HV.o g_ HVY.o);have M3_ := kp (M3.o.keep (off_below g_ HBG.o (Nat.le_trans HBD.o M7.o.size))); have M6_ := kp (HFV.o _ _ _ _ M6.o (off_below g_ HBG.o (Nat.le_trans HBD.o M7.o.size)));have HZ := kp (Nat.le_trans HBD.o (Nat.le_trans M7.o.size g_.size));clear b_ g_ s_ c36 HY HI HV M3 M6 M7;clear w_;rename World => w_;have c35 := HI_.o.at_ (i := 35) HQA.o.1;go_wp2_with (first | (refine wpl_store1 (o := ⟨none, .store _ _ _, _, _, _, _⟩) rfl rfl HY_.o rfl rfl (by kernel_rfl) rfl rfl (by simp) ?_));intro v_ b_ g_ s_;have HY := kq (Blk v_ g 91 [.slice A2 tl c2, .int .i64 (e2 : Int)]) b_;have HGG := kp (grownBy_trans HG.o g_);have HI := kp (HI_.o.grown g_ (fun e => HNE.o.1 (Option.some.inj e))); have HV := kp (At.off HV_.o g_ HVY.o);have M3 := kp (M3_.o.keep (off_below g_ HBG.o HZ.o)); have M6 := kp (HFV.o _ _ _ _ M6_.o (off_below g_ HBG.o HZ.o));have HZ2 := kp (Nat.le_trans HZ.o g_.size);clear b_ g_ s_ c35 HY_ HI_ HV_ M3_ M6_ HG HZ;clear w_;rename World => w_;have FM := kq (∀ j u, f[j]? = some u → w_.cell? ⟨gi, 0 + j, none⟩ = some u) (fun j u hu => HI.o.at_ (HFA.o j u hu));go_wp2_with (with_reducible first | refine wlm 29 row_fld FM.o M2.o.len ?_ | refine wsb row_fld HV.o.blk HV.o.len M2.o.len M2.o.one ?_);intro v_ b_ g_ s_;have HV_ := kp b_;have hBg : Bd ≤ g4 := Nat.le_trans HBD.o HVG.o;have HY_ := kp (HY.o.grown g_ (fun e => HVY.o (Option.some.inj e).symm));have M3_ := kp (M3.o.keep (off_below g_ hBg HZ2.o)); have M6_ := kp (HFV.o _ _ _ _ M6.o (off_below g_ hBg HZ2.o));have HG := kp (grownBy_new HGG.o g_ HVG.o);clear b_ g_ s_ FM;go_wp2_with fail;refine ret_cell rfl row_fld HV_.o rfl M2.o.len rfl ?_;rw [HPP.o];exact ⟨f, (t, e2), rfl, M2.o, ⟨A2, c2, by rw [← HTL.o]; exact HY_.o, by rw [← HTL.o]; exact M3_.o, by rw [← HTL.o]; exact M4.o, HBG.o, by rw [← HTL.o]; exact M5.o⟩, HG.o, .inr ⟨H0.o, M6_.o⟩⟩
 ·have z1 : ((er : Int) != 0) = true := by simp; omega
  have H0 := kp h0;clear h0;go_wp2_with (with_reducible refine wst 11 ?_);refine stop_go ?_;refine wpl_build rfl rfl BF.o ?_;go_wp2_with (with_reducible refine wsb row_fld HV.o.blk HV.o.len HZF.o.len HZF.o.one ?_);intro v_ b_ g_ s_;have HV_ := kp b_;have HB_ := kp (put_below HB.o HVG.o g_);have HY_ := kp (At.off HY.o g_ (fun e => HVY.o e.symm));clear b_ g_ s_;go_wp2_with fail;refine ret_cell rfl row_fld HV_.o rfl HZF.o.len rfl ?_;rw [HPP.o];exact ⟨noF, (l, er), by rw [HZE.o], noF_cl, ⟨A, c, by rw [← HLL.o]; exact HY_.o.blk, by rw [← HLL.o]; exact HS.o.below (HB_.o.mono HBD.o), by rw [← HLL.o]; exact HC.o, HBG.o, by rw [← HLL.o]; exact HL.o⟩, grown_of_below HB_.o _, .inl ⟨H0.o, rfl, rfl⟩⟩
end Go.Proofs.Ytobmldegjajocaa
namespace Go.Proofs.Ytobmldegjajocaa
open Go.RowKit Go.Shelf
theorem fld_1 {k n : Int} {b : Value} {d : List UInt8} (w : World) : (Instr.field 93 (.agg (fieldV k n b d).toArray) 1).run Try.prog w = .ok (.int .u64 n) w := by
 unfold Instr.field;rw [Sem.run_bind, run_underlying Try.underlying93];simp [part, asAgg, sizeOf, typeInfo, fieldV]
theorem fld_2 {k n : Int} {A : Option Addr} {m c : Nat} {d : List UInt8} (w : World) : (Instr.field 93 (.agg (fieldV k n (.slice A m c) d).toArray) 2).run Try.prog w = .ok (.slice A m c) w := by
 unfold Instr.field;rw [Sem.run_bind, run_underlying Try.underlying93];simp [part, asAgg, sizeOf, typeInfo, fieldV]
theorem fld_3 {k n : Int} {b : Value} {d : List UInt8} (hd : d.length = 32) (w : World) : (Instr.field 93 (.agg (fieldV k n b d).toArray) 3).run Try.prog w = .ok (.agg (d.map B).toArray) w := by
 unfold Instr.field;rw [Sem.run_bind, run_underlying Try.underlying93];simp [part, asAgg, sizeOf, typeInfo];have hi : (Try.prog.info? 29).map (·.size) = some 32 := by kernel_rfl
 obtain ⟨i, h1, h2⟩ := Option.map_eq_some_iff.1 hi;have l2 : (d.map B).length = 32 := by rw [List.length_map, hd]
 have e : List.take 32 (List.drop 3 (fieldV k n b d)) = d.map B := by
  show List.take 32 (d.map B) = d.map B
  rw [List.take_of_length_le (by omega)]
 simp [h1, h2, e]
def NumE (m : Nat) (s : YS) (Bd g : Nat) (w w' : World) (e : Ending) : Prop := ∃ fl : List Value, e = .returned (.agg fl.toArray) ∧ (∀ w, (Instr.field 93 (.agg fl.toArray) 1).run Try.prog w = .ok (.int .u64 ((numY m s).1 : Int)) w) ∧ EyY w' Bd g (numY m s).2 ∧ w.grownBy w' (some g)
def IdE (s : YS) (Bd g : Nat) (w w' : World) (e : Ending) : Prop := ∃ fl : List Value, e = .returned (.agg fl.toArray) ∧ (∀ w, (Instr.field 93 (.agg fl.toArray) 3).run Try.prog w = .ok (.agg ((idY s).1.map B).toArray) w) ∧ EyY w' Bd g (idY s).2 ∧ w.grownBy w' (some g)
def TextE (m : Nat) (s : YS) (Bd g : Nat) (w w' : World) (e : Ending) : Prop := ∃ (fl : List Value) (A' : Option Addr) (c' : Nat), e = .returned (.agg fl.toArray) ∧ (∀ w, (Instr.field 93 (.agg fl.toArray) 2).run Try.prog w = .ok (.slice A' (textY m s).1.length c') w) ∧ Sl w' Bd 1 A' (textY m s).1.length ((textY m s).1.map B) ∧ (textY m s).1.length ≤ c' ∧ EyY w' Bd g (textY m s).2 ∧ w.grownBy w' (some g)
theorem noF_eq : noF = fieldV 0 0 nilS zeroD := rfl
section
variable {Bd g : Nat} {s : YS} (w : World) (h : EyY w Bd g s)
include h
theorem enum24 {m : Nat} (hm : m ≤ 18446744073709551615) : Calls Try.prog 43 #[.pointer (some ⟨g, 0, none⟩), .agg (fieldV 0 (m : Int) nilS zeroD).toArray] w fun e w' => NumE m s Bd g w w' e := by
 refine (etake_any (R := numR m) (fv := numF) (fieldV_cl rfl (by simp [zeroD])) (fun A n c l w h1 h2 h3 h4 => rtake_num w h1 h2 h3 h4 hm) (fun l v t h => (numR_le h).2.2) (fun _ _ _ _ h _ => h) w h).mono ?_;rintro e w' ⟨f, s', rfl, hc, hy, hg, ⟨h0, rfl, rfl⟩ | ⟨h0, ⟨x, hx, rfl, rfl⟩ | ⟨v, t, hx, rfl, hf⟩⟩⟩
 ·have e1 : numY m s' = (0, s') := by unfold numY; exact stY_err h0
  exact ⟨_, rfl, fun w => by rw [e1, noF_eq]; exact fld_1 w, by rw [e1]; exact hy, hg⟩
 ·have e1 : numY m s = (0, ([], x)) := by unfold numY; exact stY_no h0 hx
  exact ⟨_, rfl, fun w => by rw [e1, noF_eq]; exact fld_1 w, by rw [e1]; exact hy, hg⟩
 ·have e1 : numY m s = (v, (t, 0)) := by unfold numY; exact stY_ok h0 hx
  exact ⟨_, rfl, fun w => by rw [e1, show f = _ from hf]; exact fld_1 w, by rw [e1]; exact hy, hg⟩
theorem eid24 : Calls Try.prog 43 #[.pointer (some ⟨g, 0, none⟩), .agg (fieldV 2 0 nilS zeroD).toArray] w fun e w' => IdE s Bd g w w' e := by
 refine (etake_any (R := takeR 32) (fv := idF) (fieldV_cl rfl (by simp [zeroD])) (fun A n c l w h1 h2 h3 h4 => rtake_id w h1 h2 h3 h4) (fun l v t h => (takeR_le h).2) (fun _ _ _ _ h _ => h) w h).mono ?_;rintro e w' ⟨f, s', rfl, hc, hy, hg, ⟨h0, rfl, rfl⟩ | ⟨h0, ⟨x, hx, rfl, rfl⟩ | ⟨v, t, hx, rfl, hf⟩⟩⟩
 ·have e1 : idY s' = (zeroD, s') := by unfold idY; exact stY_err h0
  exact ⟨_, rfl, fun w => by rw [e1, noF_eq]; exact fld_3 (by simp [zeroD]) w, by rw [e1]; exact hy, hg⟩
 ·have e1 : idY s = (zeroD, ([], x)) := by unfold idY; exact stY_no h0 hx
  exact ⟨_, rfl, fun w => by rw [e1, noF_eq]; exact fld_3 (by simp [zeroD]) w, by rw [e1]; exact hy, hg⟩
 ·have e1 : idY s = (v, (t, 0)) := by unfold idY; exact stY_ok h0 hx
  exact ⟨_, rfl, fun w => by rw [e1, show f = _ from hf]; exact fld_3 (takeR_le hx).1 w, by rw [e1]; exact hy, hg⟩
theorem etext24 {m : Nat} (hm : m ≤ 18446744073709551615) : Calls Try.prog 43 #[.pointer (some ⟨g, 0, none⟩), .agg (fieldV 1 (m : Int) nilS zeroD).toArray] w fun e w' => TextE m s Bd g w w' e := by
 refine (etake_any (R := textR m) (fv := textF Bd) (fieldV_cl rfl (by simp [zeroD])) (fun A n c l w h1 h2 h3 h4 => rtake_text w h1 h2 h3 h4 hm) (fun l v t h => (textR_le h).2) (fun _ _ _ _ ⟨A, c, h1, h2, h3⟩ hk => ⟨A, c, h1, h2.keep hk, h3⟩) w h).mono ?_;rintro e w' ⟨f, s', rfl, hc, hy, hg, ⟨h0, rfl, rfl⟩ | ⟨h0, ⟨x, hx, rfl, rfl⟩ | ⟨v, t, hx, rfl, ⟨A, c, hf, hs, hle⟩⟩⟩⟩
 ·have e1 : textY m s' = ([], s') := by unfold textY; exact stY_err h0
  exact ⟨_, none, 0, rfl, fun w => by rw [e1, noF_eq]; exact fld_2 w, by rw [e1]; exact Sl.nil, by rw [e1]; exact Nat.le_refl _, by rw [e1]; exact hy, hg⟩
 ·have e1 : textY m s = ([], ([], x)) := by unfold textY; exact stY_no h0 hx
  exact ⟨_, none, 0, rfl, fun w => by rw [e1, noF_eq]; exact fld_2 w, by rw [e1]; exact Sl.nil, by rw [e1]; exact Nat.le_refl _, by rw [e1]; exact hy, hg⟩
 ·have e1 : textY m s = (v, (t, 0)) := by unfold textY; exact stY_ok h0 hx
  exact ⟨_, A, c, rfl, fun w => by rw [e1, hf]; exact fld_2 w, by rw [e1]; exact hs, by rw [e1]; exact hle, by rw [e1]; exact hy, hg⟩
end
def StF {β : Type} (G : Re β) (s : YS) (F : List UInt8 → Re β) : Prop := (s.2 = 0 ∧ G = F s.1) ∨ (s.2 ≠ 0 ∧ G = .error s.2)
theorem StF.step {α β : Type} {G : Re β} {s : YS} {F : List UInt8 → Re β} {F' : α → List UInt8 → Re β} {f : List UInt8 → Re α} {z : α} (h : StF G s F) (hz : ∀ l x, f l = .error x → x ≠ 0)
  (hE : ∀ t x, f t = .error x → F t = .error x) (hO : ∀ t v t', f t = .ok (v, t') → F t = F' v t') : StF G (stY f z s).2 (F' (stY f z s).1) := by
 rcases h with ⟨h1, h2⟩ | ⟨h1, h2⟩
 ·cases hf : f s.1 with
  | error x => rw [stY_no h1 hf]; rw [hE _ _ hf] at h2; exact .inr ⟨hz _ x hf, h2⟩
  | ok p => obtain ⟨v, t⟩ := p; rw [stY_ok h1 hf]; rw [hO _ _ _ hf] at h2; exact .inl ⟨rfl, h2⟩
 ·rw [stY_err h1]; exact .inr ⟨h1, h2⟩
theorem StF.congr {β : Type} {G : Re β} {s : YS} {F F' : List UInt8 → Re β} (h : StF G s F) (hF : ∀ t, F t = F' t) : StF G s F' := by
 rcases h with ⟨h1, h2⟩ | h
 ·exact .inl ⟨h1, by rw [h2, hF]⟩
 ·exact .inr h
def KC (k : Nat) (t : List UInt8) (l2 : List UInt8) : Re LkC := match numR 16 l2 with
 | .error x => .error x
 | .ok (n, l3) => match lookN (textR 2048) n l3 with
  | .error x => .error x
  | .ok (cs, l4) => .ok (⟨kindC k, t, cs⟩, l4)
def KF (k : Nat) (l1 : List UInt8) : Re LkC :=
  if k = 0 then .error 25
  else if k = 1 then match numR 1099511627776 l1 with
   | .error x => .error x
   | .ok (s, l2) => match takeR 32 l2 with
    | .error x => .error x
    | .ok (d, l3) => match numR 4611686018427387904 l3 with
     | .error x => .error x
     | .ok (a, l4) => .ok (⟨{ kindC 1 with serial := (s : Int), dest := ⟨d, (a : Int)⟩ }, [], []⟩, l4)
  else if k = 2 ∨ k = 3 then match textR 4096 l1 with
   | .error x => .error x
   | .ok (t, l2) => .ok (⟨kindC k, t, []⟩, l2)
  else if k = 4 ∨ k = 5 ∨ k = 6 then match textR 4096 l1 with
   | .error x => .error x
   | .ok (t, l2) => KC k t l2
  else if k = 7 then match numR 1099511627776 l1 with
   | .error x => .error x
   | .ok (e, l2) => .ok (⟨{ kindC 7 with epoch := (e : Int) }, [], []⟩, l2)
  else if k = 9 then match takeR 32 l1 with
   | .error x => .error x
   | .ok (d, l2) => .ok (⟨{ kindC 9 with id := d }, [], []⟩, l2)
  else .ok (⟨kindC k, [], []⟩, l1)
def KO (p : LkC) (t : List UInt8) : Re LkC := .ok (p, t)
theorem stf0 (l : List UInt8) : StF (lookCm l) (l, 0) lookCm := .inl ⟨rfl, rfl⟩
theorem stf1 {l : List UInt8} : StF (lookCm l) (numY 9 (l, 0)).2 (KF (numY 9 (l, 0)).1) :=
 (stf0 l).step (f := numR 9) (z := 0) (F' := KF) (fun l x h => numR_err h) (fun t x h => lookCm_noKind h) (fun t k l1 h => by rw [lookCm_kind h]; rfl)
def K1a (s : Nat) (l2 : List UInt8) : Re LkC := match takeR 32 l2 with
 | .error x => .error x
 | .ok (d, l3) => match numR 4611686018427387904 l3 with
  | .error x => .error x
  | .ok (a, l4) => .ok (⟨{ kindC 1 with serial := (s : Int), dest := ⟨d, (a : Int)⟩ }, [], []⟩, l4)
def K1b (s : Nat) (d : List UInt8) (l3 : List UInt8) : Re LkC := match numR 4611686018427387904 l3 with
 | .error x => .error x
 | .ok (a, l4) => .ok (⟨{ kindC 1 with serial := (s : Int), dest := ⟨d, (a : Int)⟩ }, [], []⟩, l4)
def KL (k : Nat) (t : List UInt8) (n : Nat) (done : List (List UInt8)) (l3 : List UInt8) : Re LkC := match lookN (textR 2048) n l3 with
 | .error x => .error x
 | .ok (cs, l4) => .ok (⟨kindC k, t, done ++ cs⟩, l4)
section
variable {G : Re LkC} {s : YS} {k : Nat}
theorem stf_k1 (h : StF G s (KF 1)) : StF G (numY 1099511627776 s).2 (K1a (numY 1099511627776 s).1) :=
 StF.step (f := numR 1099511627776) (z := 0) (F' := K1a) h (fun l x h => numR_err h) (fun t x h => by unfold KF; rw [if_neg (by decide), if_pos rfl, h]) (fun t v t' h => by unfold KF K1a; rw [if_neg (by decide), if_pos rfl, h])
theorem stf_k1a {v : Nat} (h : StF G s (K1a v)) : StF G (idY s).2 (K1b v (idY s).1) :=
 StF.step (f := takeR 32) (z := zeroD) (F' := K1b v) h (fun l x h => takeR_err h) (fun t x h => by unfold K1a; rw [h]) (fun t d t' h => by unfold K1a K1b; rw [h])
theorem stf_k1b {v : Nat} {d : List UInt8} (h : StF G s (K1b v d)) : StF G (numY 4611686018427387904 s).2 (KO ⟨{ kindC 1 with serial := (v : Int), dest := ⟨d, ((numY 4611686018427387904 s).1 : Int)⟩ }, [], []⟩) :=
 StF.step (f := numR 4611686018427387904) (z := 0) (F' := fun (a : Nat) => KO ⟨{ kindC 1 with serial := (v : Int), dest := ⟨d, (a : Int)⟩ }, [], []⟩) h (fun l x h => numR_err h) (fun t x h => by unfold K1b; rw [h]) (fun t a t' h => by unfold K1b KO; rw [h])
theorem stf_k2 (h : StF G s (KF k)) (hk : k = 2 ∨ k = 3) : StF G (textY 4096 s).2 (KO ⟨kindC k, (textY 4096 s).1, []⟩) :=
 StF.step (f := textR 4096) (z := []) (F' := fun (b : List UInt8) => KO ⟨kindC k, b, []⟩) h (fun l x h => textR_err h) (fun t x h => by unfold KF; rw [if_neg (by omega), if_neg (by omega), if_pos hk, h]) (fun t b t' h => by unfold KF KO; rw [if_neg (by omega), if_neg (by omega), if_pos hk, h])
theorem stf_k4 (h : StF G s (KF k)) (hk : k = 4 ∨ k = 5 ∨ k = 6) : StF G (textY 4096 s).2 (KC k (textY 4096 s).1) :=
 StF.step (f := textR 4096) (z := []) (F' := KC k) h (fun l x h => textR_err h) (fun t x h => by unfold KF; rw [if_neg (by omega), if_neg (by omega), if_neg (by omega), if_pos hk, h]) (fun t b t' h => by unfold KF; rw [if_neg (by omega), if_neg (by omega), if_neg (by omega), if_pos hk, h])
theorem stf_kc {b : List UInt8} (h : StF G s (KC k b)) : StF G (numY 16 s).2 (KL k b (numY 16 s).1 []) :=
 StF.step (f := numR 16) (z := 0) (F' := fun n => KL k b n []) h (fun l x h => numR_err h) (fun t x h => by unfold KC; rw [h]) (fun t n t' h => by
  unfold KC KL; rw [h]; simp only
  cases lookN (textR 2048) n t' <;> rfl)
theorem stf_kl {b : List UInt8} {n : Nat} {ds : List (List UInt8)} (h : StF G s (KL k b (n + 1) ds)) : StF G (textY 2048 s).2 (KL k b n (ds ++ [(textY 2048 s).1])) :=
 StF.step (f := textR 2048) (z := []) (F' := fun v => KL k b n (ds ++ [v])) h (fun l x h => textR_err h) (fun t x h => by unfold KL lookN; rw [h]) (fun t v t' h => by
  unfold KL;rw [lookN, h];simp only;cases lookN (textR 2048) n t' with
  | error x => rfl
  | ok q => simp)
theorem stf_kz {b : List UInt8} {ds : List (List UInt8)} (h : StF G s (KL k b 0 ds)) : StF G s (KO ⟨kindC k, b, ds⟩) := h.congr (fun t => by unfold KL KO lookN; simp)
theorem stf_k7 (h : StF G s (KF 7)) : StF G (numY 1099511627776 s).2 (KO ⟨{ kindC 7 with epoch := ((numY 1099511627776 s).1 : Int) }, [], []⟩) :=
 StF.step (f := numR 1099511627776) (z := 0) (F' := fun (e : Nat) => KO ⟨{ kindC 7 with epoch := (e : Int) }, [], []⟩) h (fun l x h => numR_err h) (fun t x h => by unfold KF; simp only [h]; rfl) (fun t e t' h => by unfold KF KO; simp only [h]; rfl)
theorem stf_k9 (h : StF G s (KF 9)) : StF G (idY s).2 (KO ⟨{ kindC 9 with id := (idY s).1 }, [], []⟩) :=
 StF.step (f := takeR 32) (z := zeroD) (F' := fun (d : List UInt8) => KO ⟨{ kindC 9 with id := d }, [], []⟩) h (fun l x h => takeR_err h) (fun t x h => by unfold KF; simp only [h]; rfl) (fun t d t' h => by unfold KF KO; simp only [h]; rfl)
theorem stf_k8 (h : StF G s (KF k)) (hk : k = 8) : StF G s (KO ⟨kindC k, [], []⟩) := h.congr (fun t => by subst hk; rfl)
theorem stf_end {p : LkC} {l : List UInt8} (hl : l.length ≤ 8192) (h : StF (lookCm l) s (KO p)) : (s.2 ≠ 0 ∧ readCm l = .error s.2) ∨ (s.2 = 0 ∧ s.1 ≠ [] ∧ readCm l = .error 3) ∨ (s.2 = 0 ∧ s.1 = [] ∧ readCm l = fillC p ∧ lookCm l = .ok (p, [])) := by
 unfold readCm;rw [if_neg (by omega)];rcases h with ⟨h1, h2⟩ | ⟨h1, h2⟩
 ·unfold KO at h2;by_cases h3 : s.1 = []
  ·refine .inr (.inr ⟨h1, h3, ?_, by rw [h2, h3]⟩);rw [h2, h3]; simp
  ·refine .inr (.inl ⟨h1, h3, ?_⟩);rw [h2]; simp only; rw [if_pos h3]
 ·exact .inl ⟨h1, by rw [h2]⟩
end
end Go.Proofs.Ytobmldegjajocaa

/- The contract of the document's Read of a header. Printed by mkrd10.py. -/
import Derived.Test.YtphmefhnffoafaaGreatDoorCertTurnedU28
import Derived.Test.YtphmefhnffoafaaGreatDoorCertTurnedU25
set_option linter.unusedSimpArgs false
namespace Go.Proofs.YtphmefhnffoafaaGreatDoor
open Go.RowKit Go.Shelf
set_option linter.unusedVariables false
def lfH : Nat → Hdr → List UInt8 → Rd Hdr
 | 0, h, l => match numR 63 l with
  | .error x => .error x
  | .ok (v, t) => lfH 1 { h with shard := (v : Int) } t
 | 1, h, l => match numR 1099511627776 l with
  | .error x => .error x
  | .ok (v, t) => lfH 2 { h with height := (v : Int) } t
 | 2, h, l => match numR 1099511627776 l with
  | .error x => .error x
  | .ok (v, t) => lfH 3 { h with epoch := (v : Int) } t
 | 3, h, l => match takeR 32 l with
  | .error x => .error x
  | .ok (v, t) => lfH 4 { h with prev := v } t
 | 4, h, l => match takeR 32 l with
  | .error x => .error x
  | .ok (v, t) => .ok ({ h with root := v }, t)
 | _, h, l => .ok (h, l)
 termination_by i => 5 - i
theorem lfH_look (l : List UInt8) : lfH 0 noHdr l = lookH l := by
 unfold lookH
 rw [lfH]
 cases numR 63 l with
 | error x => rfl
 | ok p =>
  obtain ⟨v0, l0⟩ := p
  simp only
  rw [lfH]
  cases numR 1099511627776 l0 with
  | error x => rfl
  | ok p =>
   obtain ⟨v1, l1⟩ := p
   simp only
   rw [lfH]
   cases numR 1099511627776 l1 with
   | error x => rfl
   | ok p =>
    obtain ⟨v2, l2⟩ := p
    simp only
    rw [lfH]
    cases takeR 32 l2 with
    | error x => rfl
    | ok p =>
     obtain ⟨v3, l3⟩ := p
     simp only
     rw [lfH]
     cases takeR 32 l3 with
     | error x => rfl
     | ok p => rfl
def Hdr.half (h : Hdr) : Prop := h.prev.length = 32 ∧ h.root.length = 32 ∧ 0 ≤ h.height ∧ h.height ≤ 1099511627776
theorem half_len {h : Hdr} (k : h.half) : (hdrV h).length = 67 := by simp [hdrV, k.1, k.2.1]
theorem prev_splice {h : Hdr} {p : List UInt8} (k : h.half) (hp : p.length = 32) : splice (hdrV h) 3 (p.map B) = hdrV { h with prev := p } := by
 have e : hdrV h = [.int .i64 h.shard, .int .i64 h.height, .int .i64 h.epoch] ++ (h.prev.map B ++ h.root.map B) := rfl
 rw [e, splice_mid (off := 3) rfl (by simp [k.1, hp])]; rfl
theorem root_splice {h : Hdr} {p : List UInt8} (k : h.half) (hp : p.length = 32) : splice (hdrV h) 35 (p.map B) = hdrV { h with root := p } := by
 have e : hdrV h = ([.int .i64 h.shard, .int .i64 h.height, .int .i64 h.epoch] ++ h.prev.map B) ++ (h.root.map B ++ []) := by simp [hdrV]
 rw [e, splice_mid (off := 35) (by simp [k.1]) (by simp [k.2.1, hp])]; simp [hdrV]
theorem readH_err {l : List UInt8} {x : Nat} (h : lookH l = .error x) : errOf (readH l) = x ∧ hdrOf (readH l) = noHdr := by
 unfold readH; rw [h]; exact ⟨rfl, rfl⟩
theorem readH_no {l t : List UInt8} {h : Hdr} (e : lookH l = .ok (h, t)) (hb : t ≠ [] ∨ h.height = 0) : errOf (readH l) = 3 ∧ hdrOf (readH l) = noHdr := by
 unfold readH; rw [e]; simp only
 rw [if_neg (by rintro ⟨a, b⟩; rcases hb with c | c; exact c a; exact b c)]
 exact ⟨rfl, rfl⟩
theorem readH_yes {l : List UInt8} {h : Hdr} (e : lookH l = .ok (h, [])) (hb : h.height ≠ 0) : errOf (readH l) = 0 ∧ hdrOf (readH l) = h := by
 unfold readH; rw [e]; simp only
 rw [if_pos (by simpa using hb)]
 exact ⟨rfl, rfl⟩
set_option maxRecDepth 100000 in
set_option maxHeartbeats 16000000 in
theorem rhread_any {A : Option Addr} {n c : Nat} {l : List UInt8} (w : World) (hs : Sl w w.heap.size 1 A n (l.map B)) (hc : n ≤ c) (hn : n ≤ 1000000) :
  Calls Tryz.prog 32 #[.slice A n c] w fun e w' => e = .returned (.tuple #[.agg (hdrV (hdrOf (readH l))).toArray, .int .i64 (errOf (readH l) : Int)]) ∧ Below w.heap.size w w' := by
 obtain rfl : n = l.length := by have := hs.len; simpa using this.symm
 have HS := kp hs
 have HC0 := kp hc; have HN0 := kp hn
 have HCZ := kp (show Cl 67 (hdrV noHdr) from ⟨hdrV_length noHdr_ok, hdr_one noHdr⟩)
 have T0 := kp built_hdrE
 have HRE := kp (fun x => readH_err (l := l) (x := x))
 have HRN := kp (fun h t => readH_no (l := l) (h := h) (t := t))
 have HRY := kp (fun h => readH_yes (l := l) (h := h))
 have HLF := kp (lfH_look l)
 obtain ⟨rx, hrx⟩ : ∃ q, q = hdrOf (readH l) := ⟨_, rfl⟩
 obtain ⟨re, hre⟩ : ∃ q, q = errOf (readH l) := ⟨_, rfl⟩
 rw [← hrx, ← hre] at HRE HRN HRY ⊢
 have HF2 := kp (show Cl 35 (fieldV 2 0 nilS zeroD) from fieldV_cl rfl (by simp [zeroD]))
 have TF2 := kp (bt_fldk (k := 2))
 have TK : Hid (∀ (Bd : Nat) (A : Option Addr) (n c : Nat) (l : List UInt8) (w : World), Sl w Bd 1 A n (l.map B) → Bd ≤ w.heap.size → n ≤ c → n ≤ 1000000 → Calls Tryz.prog 30 #[.slice A n c, .agg (fieldV 2 0 nilS zeroD).toArray] w fun e w' => GotR (takeR 32 l) idF Bd w w' e) := kp (fun Bd A n c l w hs hb hc hn => rtake_id (m := 0) w hs hb hc hn)
 obtain ⟨f2, hf2⟩ : ∃ q, q = fieldV 2 0 nilS zeroD := ⟨_, rfl⟩
 rw [← hf2] at HF2 TF2 TK
 clear hf2
 have HF0 := kp (show Cl 35 (fieldV 0 63 nilS zeroD) from fieldV_cl rfl (by simp [zeroD]))
 have TF0 := kp (bt_fldn (n := 63))
 obtain ⟨f0, hf0⟩ : ∃ q, q = fieldV 0 63 nilS zeroD := ⟨_, rfl⟩
 have HF1 := kp (show Cl 35 (fieldV 0 1099511627776 nilS zeroD) from fieldV_cl rfl (by simp [zeroD]))
 have TF1 := kp (bt_fldn (n := 1099511627776))
 obtain ⟨f1, hf1⟩ : ∃ q, q = fieldV 0 1099511627776 nilS zeroD := ⟨_, rfl⟩
 have TN0' : Hid (∀ (Bd : Nat) (A : Option Addr) (n c : Nat) (l : List UInt8) (w : World), Sl w Bd 1 A n (l.map B) → Bd ≤ w.heap.size → n ≤ c → n ≤ 1000000 → Calls Tryz.prog 30 #[.slice A n c, .agg f0.toArray] w fun e w' => GotR (numR 63 l) numF Bd w w' e) := kp (by rw [hf0]; exact fun Bd A n c l w hs hb hc hn => rtake_num (m := 63) w hs hb hc hn (by omega))
 have TN1' : Hid (∀ (Bd : Nat) (A : Option Addr) (n c : Nat) (l : List UInt8) (w : World), Sl w Bd 1 A n (l.map B) → Bd ≤ w.heap.size → n ≤ c → n ≤ 1000000 → Calls Tryz.prog 30 #[.slice A n c, .agg f1.toArray] w fun e w' => GotR (numR 1099511627776 l) numF Bd w w' e) := kp (by rw [hf1]; exact fun Bd A n c l w hs hb hc hn => rtake_num (m := 1099511627776) w hs hb hc hn (by omega))
 rw [← hf0] at HF0 TF0
 rw [← hf1] at HF1 TF1
 clear hf0 hf1
 obtain ⟨w_, hw⟩ : ∃ x, x = w := ⟨_, rfl⟩
 have HB := kp (show Below w.heap.size w w_ by rw [hw]; exact Below.refl _ _)
 suffices H : Calls Tryz.prog 32 #[.slice A l.length c] w_ fun e w' => e = .returned (.tuple #[.agg (hdrV rx).toArray, .int .i64 (re : Int)]) ∧ Below w.heap.size w w' by rw [hw] at H; exact H
 clear hw hs hrx hre hc hn
 go_enter Tryz.func32, Tryz.ntmps32
 go_wp2_with (first | (with_reducible refine wpl_alloc (o := ⟨some 2, _, _, _, _, _⟩) rfl rfl zero_hd ?_))
 intro w2_ hb2_ hb_ hsz2_
 have HX_ := kp (at_mk hb2_ len_hd)
 clear hb2_ hsz2_
 have HG_ := kp HB.out.size
 replace HB := kp (HB.out.grow' hb_)
 generalize hg_ : w_.heap.size = g2 at HX_ HG_ ⊢
 clear hg_
 have HV_g := HG_
 clear HG_
 have HV := HX_
 clear hb_ HX_
 try clear w_
 rename World => w_
 go_wp2_with (first | (with_reducible refine wpl_alloc (o := ⟨some 4, _, _, _, _, _⟩) rfl rfl zero_hd ?_))
 intro w2_ hb2_ hb_ hsz2_
 have HX_ := kp (at_mk hb2_ len_hd)
 clear hb2_ hsz2_
 have HG_ := kp HB.out.size
 have HH_HV := kp (Nat.ne_of_lt HV.out.lt)
 replace HB := kp (HB.out.grow' hb_)
 replace HV := kp (HV.out.grow hb_)
 generalize hg_ : w_.heap.size = g4 at HX_ HG_ HH_HV ⊢
 clear hg_
 have HH_g := HG_
 clear HG_
 have HH := HX_
 clear hb_ HX_
 try clear w_
 rename World => w_
 go_wp2_with fail
 generalize hw_ : World.alloc w_ _ = w2_
 obtain ⟨hX_, hb_, hs_⟩ := alloc_eq hw_
 obtain ⟨gm, hgm⟩ : ∃ q, q = w_.heap.size := ⟨_, rfl⟩
 rw [← hgm] at hX_ ⊢
 have HM_HH := kp (show g4 ≠ gm by have h1 := HH.out.lt; omega)
 have HM_H2 := kp (show gm ≠ g4 by have h1 := HH.out.lt; omega)
 have HM_HV := kp (show g2 ≠ gm by have h1 := HV.out.lt; omega)
 have HM := kp (show At w2_ gm 25 3 [.int .u64 63, .int .u64 1099511627776, .int .u64 1099511627776] from at_mk hX_ rfl)
 clear hw_ hX_ hs_ hgm
 replace HV := kp (HV.out.grow hb_)
 replace HH := kp (HH.out.grow hb_)
 replace HB := kp (HB.out.grow' hb_)
 clear hb_
 try clear w_
 rename World => w_
 go_loopw [0, 6] (fun bv iv wr => ∃ i : Nat, ∃ A' c' li, ∃ hi : Hdr, i ≤ 5 ∧ iv = .int .i64 i ∧ bv = .slice A' li.length c' ∧ Hid (lfH i hi li = lookH l ∧ hi.half ∧ li.length ≤ l.length ∧ li.length ≤ c' ∧ Sl w w.heap.size 1 A' li.length (li.map B) ∧ At wr g2 33 67 (hdrV noHdr) ∧ At wr g4 33 67 (hdrV hi) ∧ At wr gm 25 3 [.int .u64 63, .int .u64 1099511627776, .int .u64 1099511627776] ∧ Below w.heap.size w wr)) (fun _ iv _ => 5 - (intOf iv).toNat)
 case atStart => exact ⟨0, A, c, l, noHdr, by omega, rfl, rfl, kp ⟨HLF.out, ⟨by simp [noHdr, zeroD], by simp [noHdr, zeroD], by simp [noHdr], by simp [noHdr]⟩, Nat.le_refl _, HC0.out, HS.out, HV.out, HH.out, HM.out, HB.out⟩⟩
 case round =>
  obtain ⟨i, A', c', li, hi, hi5, rfl, rfl, hI⟩ := hrel
  clear HV HH HM HB
  obtain ⟨HLI, HHF, HLL, HLC, HSL, HV, HH, HM, HB⟩ : Hid _ ∧ Hid _ ∧ Hid _ ∧ Hid _ ∧ Hid _ ∧ Hid _ ∧ Hid _ ∧ Hid _ ∧ Hid _ := ⟨kp hI.out.1, kp hI.out.2.1, kp hI.out.2.2.1, kp hI.out.2.2.2.1, kp hI.out.2.2.2.2.1, kp hI.out.2.2.2.2.2.1, kp hI.out.2.2.2.2.2.2.1, kp hI.out.2.2.2.2.2.2.2.1, kp hI.out.2.2.2.2.2.2.2.2⟩
  clear hI
  rename World => w_
  obtain ⟨nl, hnl⟩ : ∃ q, q = li.length := ⟨_, rfl⟩
  rw [← hnl] at HSL ⊢
  have HNL := kp hnl
  clear hnl
  rcases (show i = 0 ∨ i = 1 ∨ i = 2 ∨ i = 3 ∨ i = 4 ∨ i = 5 by omega) with rfl | rfl | rfl | rfl | rfl | rfl
  ·skip
   have HLK := HLI.out
   rw [lfH] at HLK
   have HLK_ := kp HLK
   clear HLK
   go_wp2_with (first | (with_reducible refine wpl_stop (o := ⟨some 14, _, _, _, _, _⟩) ?_))
   refine stop_go ?_
   refine wpl_build rfl rfl TF2.out ?_
   go_wp2_with (first | (with_reducible refine wpl_alloc (o := ⟨some 7, _, _, _, _, _⟩) rfl rfl zero_fld ?_))
   intro w2_ hb2_ hb_ hsz2_
   have HX_ := kp (at_mk hb2_ len_fld)
   clear hb2_ hsz2_
   have HG_ := kp HB.out.size
   have HF_HV := kp (Nat.ne_of_lt HV.out.lt)
   have HF_HH := kp (Nat.ne_of_lt HH.out.lt)
   have HF_HM := kp (Nat.ne_of_lt HM.out.lt)
   replace HB := kp (HB.out.grow' hb_)
   replace HV := kp (HV.out.grow hb_)
   replace HH := kp (HH.out.grow hb_)
   replace HM := kp (HM.out.grow hb_)
   generalize hg_ : w_.heap.size = g7 at HX_ HG_ HF_HV HF_HH HF_HM ⊢
   clear hg_
   have HF_g := HG_
   clear HG_
   have HF := HX_
   clear hb_ HX_
   try clear w_
   rename World => w_
   go_wp2_with (first | (with_reducible refine wpl_storeb (o := ⟨none, .store _ _ _, _, _, _, _⟩) rfl rfl row_fld HF.out.blk rfl rfl HF.out.len HF2.out.len HF2.out.one ?_))
   intro w2_ hb2_ hg2_ hsz2_
   replace HB := kp (put_below HB.out HF_g.out hg2_)
   replace HF := kp (at_mk hb2_ HF2.out.len)
   replace HV := kp (At.off HV.out hg2_ HF_HV.out)
   replace HH := kp (At.off HH.out hg2_ HF_HH.out)
   replace HM := kp (At.off HM.out hg2_ HF_HM.out)
   clear hb2_ hg2_ hsz2_
   try clear w_
   rename World => w_
   have cm := HM.out.blk.at_ (i := 0) rfl
   go_wp2_with (first | (with_reducible refine wpl_stop (o := ⟨some 21, _, _, _, _, _⟩) ?_))
   refine stop_go ?_
   refine wpl_build rfl rfl TF0.out ?_
   go_wp2_with (first | (with_reducible refine wpl_storeb (o := ⟨none, .store _ _ _, _, _, _, _⟩) rfl rfl row_fld HF.out.blk rfl rfl HF.out.len HF0.out.len HF0.out.one ?_))
   intro w2_ hb2_ hg2_ hsz2_
   replace HB := kp (put_below HB.out HF_g.out hg2_)
   replace HF := kp (at_mk hb2_ HF0.out.len)
   replace HV := kp (At.off HV.out hg2_ HF_HV.out)
   replace HH := kp (At.off HH.out hg2_ HF_HH.out)
   replace HM := kp (At.off HM.out hg2_ HF_HM.out)
   clear hb2_ hg2_ hsz2_
   try clear w_
   rename World => w_
   clear cm
   go_wp2_with (first | (with_reducible refine wpl_loadb (o := ⟨some 23, _, _, _, _, _⟩) rfl rfl row_fld HF.out.blk rfl HF.out.len ?_))
   refine (TN0'.out _ _ _ _ _ _ (HSL.out.below HB.out) HB.out.size (by rw [HNL.out]; exact HLC.out) (by rw [HNL.out]; exact Nat.le_trans HLL.out HN0.out)).mono ?_
   rintro e w2_ hr_
   obtain ⟨hb_, ⟨x, hx, rfl⟩ | ⟨v, t, f, A2, c2, hx, rfl, hcl, hfv, hs2, hc2⟩⟩ := hr_.get
   ·skip
    have HX := kp (show lookH l = .error x by have h := HLK_.out; rw [hx] at h; exact h.symm)
    have HXN := kp (show x ≠ 0 from numR_err hx)
    clear hr_ hx HF HM
    replace HV := kp (HV.out.grow hb_)
    replace HH := kp (HH.out.grow hb_)
    replace HB := kp (HB.out.grow' hb_)
    clear hb_
    try clear w_
    rename World => w_
    have HGZ := kp (show Cl 37 (gotV noF (x : Int) nilS) from gotV_cl noF_cl rfl)
    have HG35 := kp (show (gotV noF (x : Int) nilS)[35]? = some (.int .i64 (x : Int)) from (gotV_at noF_cl).1)
    obtain ⟨gz, hgz⟩ : ∃ q, q = gotV noF (x : Int) nilS := ⟨_, rfl⟩
    rw [← hgz] at HGZ HG35 ⊢
    clear hgz
    go_wp2_with (first | (with_reducible refine wpl_alloc (o := ⟨some 8, _, _, _, _, _⟩) rfl rfl zero_got ?_))
    intro w2_ hb2_ hb_ hsz2_
    have HX_ := kp (at_mk hb2_ len_got)
    clear hb2_ hsz2_
    have HG_ := kp HB.out.size
    have HG_HV := kp (Nat.ne_of_lt HV.out.lt)
    have HG_HH := kp (Nat.ne_of_lt HH.out.lt)
    replace HB := kp (HB.out.grow' hb_)
    replace HV := kp (HV.out.grow hb_)
    replace HH := kp (HH.out.grow hb_)
    generalize hg_ : w_.heap.size = g8 at HX_ HG_ HG_HV HG_HH ⊢
    clear hg_
    have HG_g := HG_
    clear HG_
    have HG := HX_
    clear hb_ HX_
    try clear w_
    rename World => w_
    go_wp2_with (first | (with_reducible refine wpl_storeb (o := ⟨none, .store _ _ _, _, _, _, _⟩) rfl rfl row_got HG.out.blk rfl rfl HG.out.len HGZ.out.len HGZ.out.one ?_))
    intro w2_ hb2_ hg2_ hsz2_
    replace HB := kp (put_below HB.out HG_g.out hg2_)
    replace HG := kp (at_mk hb2_ HGZ.out.len)
    replace HV := kp (At.off HV.out hg2_ HG_HV.out)
    clear hb2_ hg2_ hsz2_
    try clear w_
    rename World => w_
    have c35 := HG.out.blk.at_ HG35.out
    have d0 : ((x : Int) != 0) = true := by simp; exact HXN.out
    try go_wp2_with fail
    repeat' (first | (with_reducible refine wp_plan (id := 11) (fun a b => a.grownBy b (some g2)) [0,0,1,4,0] (.get 0 (.get 1 (.get 2 (.act 3 (.get 4 .done))))) (by kernel_rfl) (by kernel_rfl) (fun a => grownBy_refl a _) (fun _ _ _ h k => grownBy_trans h k) ?_) | go_values | go_skip | go_guarded | go_step | go_upon | go_back)
    intro w_ hd_
    have hb_ := hd_.grow
    replace HB := kp (HB.out.grow' hb_)
    replace HV := kp (HV.out.grow hb_)
    replace HG := kp (HG.out.grow hb_)
    clear hb_ hd_
    refine pl_calm rfl rfl (by exact wanted_none rfl) (fun w_ => by exact exec_build rfl T0.out w_) (fun K hK => ?_)
    go_simp
    refine hK _ _ ?_
    clear hK K
    repeat ((first | refine pl_calm rfl rfl (by first | exact wanted_none rfl | (go_simp; done) | rfl) (fun w_ => by first | (go_simp; rfl) | (go_simp; done) | rfl) (fun K hK => ?_) | refine pl_skip rfl (by first | (go_simp; done) | rfl) (fun K hK => ?_) | refine pl_skipa rfl (by first | (go_simp; done) | rfl) (fun K hK => ?_)); go_simp; refine hK _ _ ?_; clear hK K)
    refine pl_read rfl rfl (by exact wanted_none rfl) (v := .int .i64 (x : Int)) (fun w3_ hf_ => by have c9 := (HG.out.blk.grown hf_ (fun e => HG_HV.out (Option.some.inj e).symm)).at_ HG35.out; first | (go_simp; rfl) | (go_simp; done)) (fun K hK => ?_)
    go_simp
    refine hK _ _ ?_
    clear hK K
    refine pl_act rfl (by exact wanted_none rfl) (fun K hK => ?_)
    show wpList _ _ _ [⟨none, .store _ _ _, _, _, _, _⟩] _ _
    go_wp2_with (first | (with_reducible refine wpl_storeb (o := ⟨none, .store _ _ _, _, _, _, _⟩) rfl rfl row_hd HV.out.blk rfl rfl HV.out.len HCZ.out.len HCZ.out.one ?_))
    intro w2_ hb2_ hg2_ hsz2_
    go_wp2_with fail
    refine hK _ _ (fun _ => hg2_) ?_
    clear hK K
    replace HB := kp (put_below HB.out HV_g.out hg2_)
    replace HV := kp (at_mk hb2_ HCZ.out.len)
    clear hb2_ hg2_ hsz2_
    repeat ((first | refine pl_calm rfl rfl (by first | exact wanted_none rfl | (go_simp; done) | rfl) (fun w_ => by first | (go_simp; rfl) | (go_simp; done) | rfl) (fun K hK => ?_) | refine pl_skip rfl (by first | (go_simp; done) | rfl) (fun K hK => ?_) | refine pl_skipa rfl (by first | (go_simp; done) | rfl) (fun K hK => ?_)); go_simp; refine hK _ _ ?_; clear hK K)
    refine pl_done ?_
    go_wp2_with fail
    refine ret_cell_tmp rfl row_hd HV.out.blk rfl HV.out.len rfl rfl ?_
    exact ⟨by rw [(HRE.out x HX.out).1, (HRE.out x HX.out).2]; rfl, HB.out⟩
   ·skip
    have HLN := kp (show lfH 1 ({ hi with shard := (v : Int) }) t = lookH l by have h := HLK_.out; rw [hx] at h; exact h)
    have HTL := kp (show t.length ≤ l.length from Nat.le_trans (numR_le hx).2.2 HLL.out)
    have HVM := kp (numR_le hx).1
    have HGC := kp (show Cl 37 (gotV f 0 (.slice A2 t.length c2)) from gotV_cl hcl rfl)
    have HG35 := kp (show (gotV f 0 (.slice A2 t.length c2))[35]? = some (.int .i64 0) from (gotV_at hcl).1)
    have HG36 := kp (show (gotV f 0 (.slice A2 t.length c2))[36]? = some (.slice A2 t.length c2) from (gotV_at hcl).2.1)
    have HG1 := kp (show (gotV f 0 (.slice A2 t.length c2))[1]? = some (.int .u64 (v : Int)) from (gotV_at hcl).2.2 _ _ (by rw [show f = _ from hfv]; rfl))
    have HS2 := kp (show Sl w w.heap.size 1 A2 t.length (t.map B) from hs2.back (HB.out.grow' hb_))
    have HC2 := kp hc2
    obtain ⟨tl, htl⟩ : ∃ q, q = t.length := ⟨_, rfl⟩
    obtain ⟨gv, hgv⟩ : ∃ q, q = gotV f 0 (.slice A2 t.length c2) := ⟨_, rfl⟩
    rw [← hgv] at HGC HG35 HG36 HG1 ⊢
    rw [← htl] at HG36
    have HTE := kp htl
    clear hr_ hx hcl hfv hs2 hc2 hgv htl HF HSL HLI HLK_ HLC HNL HLL
    replace HV := kp (HV.out.grow hb_)
    replace HH := kp (HH.out.grow hb_)
    replace HM := kp (HM.out.grow hb_)
    replace HB := kp (HB.out.grow' hb_)
    clear hb_
    try clear w_
    rename World => w_
    go_wp2_with (first | (with_reducible refine wpl_alloc (o := ⟨some 8, _, _, _, _, _⟩) rfl rfl zero_got ?_))
    intro w2_ hb2_ hb_ hsz2_
    have HX_ := kp (at_mk hb2_ len_got)
    clear hb2_ hsz2_
    have HG_ := kp HB.out.size
    have HG_HV := kp (Nat.ne_of_lt HV.out.lt)
    have HG_HH := kp (Nat.ne_of_lt HH.out.lt)
    have HG_HM := kp (Nat.ne_of_lt HM.out.lt)
    replace HB := kp (HB.out.grow' hb_)
    replace HV := kp (HV.out.grow hb_)
    replace HH := kp (HH.out.grow hb_)
    replace HM := kp (HM.out.grow hb_)
    generalize hg_ : w_.heap.size = g8 at HX_ HG_ HG_HV HG_HH HG_HM ⊢
    clear hg_
    have HG_g := HG_
    clear HG_
    have HG := HX_
    clear hb_ HX_
    try clear w_
    rename World => w_
    go_wp2_with (first | (with_reducible refine wpl_storeb (o := ⟨none, .store _ _ _, _, _, _, _⟩) rfl rfl row_got HG.out.blk rfl rfl HG.out.len HGC.out.len HGC.out.one ?_))
    intro w2_ hb2_ hg2_ hsz2_
    replace HB := kp (put_below HB.out HG_g.out hg2_)
    replace HG := kp (at_mk hb2_ HGC.out.len)
    replace HV := kp (At.off HV.out hg2_ HG_HV.out)
    replace HH := kp (At.off HH.out hg2_ HG_HH.out)
    replace HM := kp (At.off HM.out hg2_ HG_HM.out)
    clear hb2_ hg2_ hsz2_
    try clear w_
    rename World => w_
    have c35 := HG.out.blk.at_ HG35.out
    have c36 := HG.out.blk.at_ HG36.out
    have c1 := HG.out.blk.at_ HG1.out
    have q1 : IntKind.i64.wrap (v : Int) = (v : Int) := IntWalk.i64_in _ (by have := HVM.out; omega)
    go_wp2_with (first | (refine wpl_store1 (o := ⟨none, .store _ _ _, _, _, _, _⟩) rfl rfl HH.out.blk rfl rfl (by kernel_rfl) rfl rfl (by have := HH.out.len; omega) ?_))
    intro w2_ hb2_ hg2_ hsz2_
    replace HB := kp (put_below HB.out HH_g.out hg2_)
    replace HH := kp (at_mk hb2_ ((List.length_set ..).trans HH.out.len))
    replace HV := kp (At.off HV.out hg2_ HH_HV.out)
    replace HM := kp (At.off HM.out hg2_ HM_H2.out)
    clear hb2_ hg2_ hsz2_
    try clear w_
    rename World => w_
    clear c1 q1
    replace HH := kp (show At w_ g4 33 67 (hdrV ({ hi with shard := (v : Int) })) from HH.out)
    clear c35 c36
    have HHN := kp (show Hdr.half ({ hi with shard := (v : Int) }) from ⟨HHF.out.1, HHF.out.2.1, HHF.out.2.2.1, HHF.out.2.2.2⟩)
    go_wp2_with fail
    go_roundw
    case rel => exact ⟨1, A2, c2, t, { hi with shard := (v : Int) }, by omega, rfl, by rw [HTE.out], kp ⟨HLN.out, HHN.out, HTL.out, HC2.out, HS2.out, HV.out, HH.out, HM.out, HB.out⟩⟩
    case measure => simp [intOf]
  ·skip
   have HLK := HLI.out
   rw [lfH] at HLK
   have HLK_ := kp HLK
   clear HLK
   go_wp2_with (first | (with_reducible refine wpl_stop (o := ⟨some 14, _, _, _, _, _⟩) ?_))
   refine stop_go ?_
   refine wpl_build rfl rfl TF2.out ?_
   go_wp2_with (first | (with_reducible refine wpl_alloc (o := ⟨some 7, _, _, _, _, _⟩) rfl rfl zero_fld ?_))
   intro w2_ hb2_ hb_ hsz2_
   have HX_ := kp (at_mk hb2_ len_fld)
   clear hb2_ hsz2_
   have HG_ := kp HB.out.size
   have HF_HV := kp (Nat.ne_of_lt HV.out.lt)
   have HF_HH := kp (Nat.ne_of_lt HH.out.lt)
   have HF_HM := kp (Nat.ne_of_lt HM.out.lt)
   replace HB := kp (HB.out.grow' hb_)
   replace HV := kp (HV.out.grow hb_)
   replace HH := kp (HH.out.grow hb_)
   replace HM := kp (HM.out.grow hb_)
   generalize hg_ : w_.heap.size = g7 at HX_ HG_ HF_HV HF_HH HF_HM ⊢
   clear hg_
   have HF_g := HG_
   clear HG_
   have HF := HX_
   clear hb_ HX_
   try clear w_
   rename World => w_
   go_wp2_with (first | (with_reducible refine wpl_storeb (o := ⟨none, .store _ _ _, _, _, _, _⟩) rfl rfl row_fld HF.out.blk rfl rfl HF.out.len HF2.out.len HF2.out.one ?_))
   intro w2_ hb2_ hg2_ hsz2_
   replace HB := kp (put_below HB.out HF_g.out hg2_)
   replace HF := kp (at_mk hb2_ HF2.out.len)
   replace HV := kp (At.off HV.out hg2_ HF_HV.out)
   replace HH := kp (At.off HH.out hg2_ HF_HH.out)
   replace HM := kp (At.off HM.out hg2_ HF_HM.out)
   clear hb2_ hg2_ hsz2_
   try clear w_
   rename World => w_
   have cm := HM.out.blk.at_ (i := 1) rfl
   go_wp2_with (first | (with_reducible refine wpl_stop (o := ⟨some 21, _, _, _, _, _⟩) ?_))
   refine stop_go ?_
   refine wpl_build rfl rfl TF1.out ?_
   go_wp2_with (first | (with_reducible refine wpl_storeb (o := ⟨none, .store _ _ _, _, _, _, _⟩) rfl rfl row_fld HF.out.blk rfl rfl HF.out.len HF1.out.len HF1.out.one ?_))
   intro w2_ hb2_ hg2_ hsz2_
   replace HB := kp (put_below HB.out HF_g.out hg2_)
   replace HF := kp (at_mk hb2_ HF1.out.len)
   replace HV := kp (At.off HV.out hg2_ HF_HV.out)
   replace HH := kp (At.off HH.out hg2_ HF_HH.out)
   replace HM := kp (At.off HM.out hg2_ HF_HM.out)
   clear hb2_ hg2_ hsz2_
   try clear w_
   rename World => w_
   clear cm
   go_wp2_with (first | (with_reducible refine wpl_loadb (o := ⟨some 23, _, _, _, _, _⟩) rfl rfl row_fld HF.out.blk rfl HF.out.len ?_))
   refine (TN1'.out _ _ _ _ _ _ (HSL.out.below HB.out) HB.out.size (by rw [HNL.out]; exact HLC.out) (by rw [HNL.out]; exact Nat.le_trans HLL.out HN0.out)).mono ?_
   rintro e w2_ hr_
   obtain ⟨hb_, ⟨x, hx, rfl⟩ | ⟨v, t, f, A2, c2, hx, rfl, hcl, hfv, hs2, hc2⟩⟩ := hr_.get
   ·skip
    have HX := kp (show lookH l = .error x by have h := HLK_.out; rw [hx] at h; exact h.symm)
    have HXN := kp (show x ≠ 0 from numR_err hx)
    clear hr_ hx HF HM
    replace HV := kp (HV.out.grow hb_)
    replace HH := kp (HH.out.grow hb_)
    replace HB := kp (HB.out.grow' hb_)
    clear hb_
    try clear w_
    rename World => w_
    have HGZ := kp (show Cl 37 (gotV noF (x : Int) nilS) from gotV_cl noF_cl rfl)
    have HG35 := kp (show (gotV noF (x : Int) nilS)[35]? = some (.int .i64 (x : Int)) from (gotV_at noF_cl).1)
    obtain ⟨gz, hgz⟩ : ∃ q, q = gotV noF (x : Int) nilS := ⟨_, rfl⟩
    rw [← hgz] at HGZ HG35 ⊢
    clear hgz
    go_wp2_with (first | (with_reducible refine wpl_alloc (o := ⟨some 8, _, _, _, _, _⟩) rfl rfl zero_got ?_))
    intro w2_ hb2_ hb_ hsz2_
    have HX_ := kp (at_mk hb2_ len_got)
    clear hb2_ hsz2_
    have HG_ := kp HB.out.size
    have HG_HV := kp (Nat.ne_of_lt HV.out.lt)
    have HG_HH := kp (Nat.ne_of_lt HH.out.lt)
    replace HB := kp (HB.out.grow' hb_)
    replace HV := kp (HV.out.grow hb_)
    replace HH := kp (HH.out.grow hb_)
    generalize hg_ : w_.heap.size = g8 at HX_ HG_ HG_HV HG_HH ⊢
    clear hg_
    have HG_g := HG_
    clear HG_
    have HG := HX_
    clear hb_ HX_
    try clear w_
    rename World => w_
    go_wp2_with (first | (with_reducible refine wpl_storeb (o := ⟨none, .store _ _ _, _, _, _, _⟩) rfl rfl row_got HG.out.blk rfl rfl HG.out.len HGZ.out.len HGZ.out.one ?_))
    intro w2_ hb2_ hg2_ hsz2_
    replace HB := kp (put_below HB.out HG_g.out hg2_)
    replace HG := kp (at_mk hb2_ HGZ.out.len)
    replace HV := kp (At.off HV.out hg2_ HG_HV.out)
    clear hb2_ hg2_ hsz2_
    try clear w_
    rename World => w_
    have c35 := HG.out.blk.at_ HG35.out
    have d0 : ((x : Int) != 0) = true := by simp; exact HXN.out
    try go_wp2_with fail
    repeat' (first | (with_reducible refine wp_plan (id := 11) (fun a b => a.grownBy b (some g2)) [0,0,1,4,0] (.get 0 (.get 1 (.get 2 (.act 3 (.get 4 .done))))) (by kernel_rfl) (by kernel_rfl) (fun a => grownBy_refl a _) (fun _ _ _ h k => grownBy_trans h k) ?_) | go_values | go_skip | go_guarded | go_step | go_upon | go_back)
    intro w_ hd_
    have hb_ := hd_.grow
    replace HB := kp (HB.out.grow' hb_)
    replace HV := kp (HV.out.grow hb_)
    replace HG := kp (HG.out.grow hb_)
    clear hb_ hd_
    refine pl_calm rfl rfl (by exact wanted_none rfl) (fun w_ => by exact exec_build rfl T0.out w_) (fun K hK => ?_)
    go_simp
    refine hK _ _ ?_
    clear hK K
    repeat ((first | refine pl_calm rfl rfl (by first | exact wanted_none rfl | (go_simp; done) | rfl) (fun w_ => by first | (go_simp; rfl) | (go_simp; done) | rfl) (fun K hK => ?_) | refine pl_skip rfl (by first | (go_simp; done) | rfl) (fun K hK => ?_) | refine pl_skipa rfl (by first | (go_simp; done) | rfl) (fun K hK => ?_)); go_simp; refine hK _ _ ?_; clear hK K)
    refine pl_read rfl rfl (by exact wanted_none rfl) (v := .int .i64 (x : Int)) (fun w3_ hf_ => by have c9 := (HG.out.blk.grown hf_ (fun e => HG_HV.out (Option.some.inj e).symm)).at_ HG35.out; first | (go_simp; rfl) | (go_simp; done)) (fun K hK => ?_)
    go_simp
    refine hK _ _ ?_
    clear hK K
    refine pl_act rfl (by exact wanted_none rfl) (fun K hK => ?_)
    show wpList _ _ _ [⟨none, .store _ _ _, _, _, _, _⟩] _ _
    go_wp2_with (first | (with_reducible refine wpl_storeb (o := ⟨none, .store _ _ _, _, _, _, _⟩) rfl rfl row_hd HV.out.blk rfl rfl HV.out.len HCZ.out.len HCZ.out.one ?_))
    intro w2_ hb2_ hg2_ hsz2_
    go_wp2_with fail
    refine hK _ _ (fun _ => hg2_) ?_
    clear hK K
    replace HB := kp (put_below HB.out HV_g.out hg2_)
    replace HV := kp (at_mk hb2_ HCZ.out.len)
    clear hb2_ hg2_ hsz2_
    repeat ((first | refine pl_calm rfl rfl (by first | exact wanted_none rfl | (go_simp; done) | rfl) (fun w_ => by first | (go_simp; rfl) | (go_simp; done) | rfl) (fun K hK => ?_) | refine pl_skip rfl (by first | (go_simp; done) | rfl) (fun K hK => ?_) | refine pl_skipa rfl (by first | (go_simp; done) | rfl) (fun K hK => ?_)); go_simp; refine hK _ _ ?_; clear hK K)
    refine pl_done ?_
    go_wp2_with fail
    refine ret_cell_tmp rfl row_hd HV.out.blk rfl HV.out.len rfl rfl ?_
    exact ⟨by rw [(HRE.out x HX.out).1, (HRE.out x HX.out).2]; rfl, HB.out⟩
   ·skip
    have HLN := kp (show lfH 2 ({ hi with height := (v : Int) }) t = lookH l by have h := HLK_.out; rw [hx] at h; exact h)
    have HTL := kp (show t.length ≤ l.length from Nat.le_trans (numR_le hx).2.2 HLL.out)
    have HVM := kp (numR_le hx).1
    have HGC := kp (show Cl 37 (gotV f 0 (.slice A2 t.length c2)) from gotV_cl hcl rfl)
    have HG35 := kp (show (gotV f 0 (.slice A2 t.length c2))[35]? = some (.int .i64 0) from (gotV_at hcl).1)
    have HG36 := kp (show (gotV f 0 (.slice A2 t.length c2))[36]? = some (.slice A2 t.length c2) from (gotV_at hcl).2.1)
    have HG1 := kp (show (gotV f 0 (.slice A2 t.length c2))[1]? = some (.int .u64 (v : Int)) from (gotV_at hcl).2.2 _ _ (by rw [show f = _ from hfv]; rfl))
    have HS2 := kp (show Sl w w.heap.size 1 A2 t.length (t.map B) from hs2.back (HB.out.grow' hb_))
    have HC2 := kp hc2
    obtain ⟨tl, htl⟩ : ∃ q, q = t.length := ⟨_, rfl⟩
    obtain ⟨gv, hgv⟩ : ∃ q, q = gotV f 0 (.slice A2 t.length c2) := ⟨_, rfl⟩
    rw [← hgv] at HGC HG35 HG36 HG1 ⊢
    rw [← htl] at HG36
    have HTE := kp htl
    clear hr_ hx hcl hfv hs2 hc2 hgv htl HF HSL HLI HLK_ HLC HNL HLL
    replace HV := kp (HV.out.grow hb_)
    replace HH := kp (HH.out.grow hb_)
    replace HM := kp (HM.out.grow hb_)
    replace HB := kp (HB.out.grow' hb_)
    clear hb_
    try clear w_
    rename World => w_
    go_wp2_with (first | (with_reducible refine wpl_alloc (o := ⟨some 8, _, _, _, _, _⟩) rfl rfl zero_got ?_))
    intro w2_ hb2_ hb_ hsz2_
    have HX_ := kp (at_mk hb2_ len_got)
    clear hb2_ hsz2_
    have HG_ := kp HB.out.size
    have HG_HV := kp (Nat.ne_of_lt HV.out.lt)
    have HG_HH := kp (Nat.ne_of_lt HH.out.lt)
    have HG_HM := kp (Nat.ne_of_lt HM.out.lt)
    replace HB := kp (HB.out.grow' hb_)
    replace HV := kp (HV.out.grow hb_)
    replace HH := kp (HH.out.grow hb_)
    replace HM := kp (HM.out.grow hb_)
    generalize hg_ : w_.heap.size = g8 at HX_ HG_ HG_HV HG_HH HG_HM ⊢
    clear hg_
    have HG_g := HG_
    clear HG_
    have HG := HX_
    clear hb_ HX_
    try clear w_
    rename World => w_
    go_wp2_with (first | (with_reducible refine wpl_storeb (o := ⟨none, .store _ _ _, _, _, _, _⟩) rfl rfl row_got HG.out.blk rfl rfl HG.out.len HGC.out.len HGC.out.one ?_))
    intro w2_ hb2_ hg2_ hsz2_
    replace HB := kp (put_below HB.out HG_g.out hg2_)
    replace HG := kp (at_mk hb2_ HGC.out.len)
    replace HV := kp (At.off HV.out hg2_ HG_HV.out)
    replace HH := kp (At.off HH.out hg2_ HG_HH.out)
    replace HM := kp (At.off HM.out hg2_ HG_HM.out)
    clear hb2_ hg2_ hsz2_
    try clear w_
    rename World => w_
    have c35 := HG.out.blk.at_ HG35.out
    have c36 := HG.out.blk.at_ HG36.out
    have c1 := HG.out.blk.at_ HG1.out
    have q1 : IntKind.i64.wrap (v : Int) = (v : Int) := IntWalk.i64_in _ (by have := HVM.out; omega)
    go_wp2_with (first | (refine wpl_store1 (o := ⟨none, .store _ _ _, _, _, _, _⟩) rfl rfl HH.out.blk rfl rfl (by kernel_rfl) rfl rfl (by have := HH.out.len; omega) ?_))
    intro w2_ hb2_ hg2_ hsz2_
    replace HB := kp (put_below HB.out HH_g.out hg2_)
    replace HH := kp (at_mk hb2_ ((List.length_set ..).trans HH.out.len))
    replace HV := kp (At.off HV.out hg2_ HH_HV.out)
    replace HM := kp (At.off HM.out hg2_ HM_H2.out)
    clear hb2_ hg2_ hsz2_
    try clear w_
    rename World => w_
    clear c1 q1
    replace HH := kp (show At w_ g4 33 67 (hdrV ({ hi with height := (v : Int) })) from HH.out)
    clear c35 c36
    have HHN := kp (show Hdr.half ({ hi with height := (v : Int) }) from ⟨HHF.out.1, HHF.out.2.1, by simp, by have := HVM.out; simp only; omega⟩)
    go_wp2_with fail
    go_roundw
    case rel => exact ⟨2, A2, c2, t, { hi with height := (v : Int) }, by omega, rfl, by rw [HTE.out], kp ⟨HLN.out, HHN.out, HTL.out, HC2.out, HS2.out, HV.out, HH.out, HM.out, HB.out⟩⟩
    case measure => simp [intOf]
  ·skip
   have HLK := HLI.out
   rw [lfH] at HLK
   have HLK_ := kp HLK
   clear HLK
   go_wp2_with (first | (with_reducible refine wpl_stop (o := ⟨some 14, _, _, _, _, _⟩) ?_))
   refine stop_go ?_
   refine wpl_build rfl rfl TF2.out ?_
   go_wp2_with (first | (with_reducible refine wpl_alloc (o := ⟨some 7, _, _, _, _, _⟩) rfl rfl zero_fld ?_))
   intro w2_ hb2_ hb_ hsz2_
   have HX_ := kp (at_mk hb2_ len_fld)
   clear hb2_ hsz2_
   have HG_ := kp HB.out.size
   have HF_HV := kp (Nat.ne_of_lt HV.out.lt)
   have HF_HH := kp (Nat.ne_of_lt HH.out.lt)
   have HF_HM := kp (Nat.ne_of_lt HM.out.lt)
   replace HB := kp (HB.out.grow' hb_)
   replace HV := kp (HV.out.grow hb_)
   replace HH := kp (HH.out.grow hb_)
   replace HM := kp (HM.out.grow hb_)
   generalize hg_ : w_.heap.size = g7 at HX_ HG_ HF_HV HF_HH HF_HM ⊢
   clear hg_
   have HF_g := HG_
   clear HG_
   have HF := HX_
   clear hb_ HX_
   try clear w_
   rename World => w_
   go_wp2_with (first | (with_reducible refine wpl_storeb (o := ⟨none, .store _ _ _, _, _, _, _⟩) rfl rfl row_fld HF.out.blk rfl rfl HF.out.len HF2.out.len HF2.out.one ?_))
   intro w2_ hb2_ hg2_ hsz2_
   replace HB := kp (put_below HB.out HF_g.out hg2_)
   replace HF := kp (at_mk hb2_ HF2.out.len)
   replace HV := kp (At.off HV.out hg2_ HF_HV.out)
   replace HH := kp (At.off HH.out hg2_ HF_HH.out)
   replace HM := kp (At.off HM.out hg2_ HF_HM.out)
   clear hb2_ hg2_ hsz2_
   try clear w_
   rename World => w_
   have cm := HM.out.blk.at_ (i := 2) rfl
   go_wp2_with (first | (with_reducible refine wpl_stop (o := ⟨some 21, _, _, _, _, _⟩) ?_))
   refine stop_go ?_
   refine wpl_build rfl rfl TF1.out ?_
   go_wp2_with (first | (with_reducible refine wpl_storeb (o := ⟨none, .store _ _ _, _, _, _, _⟩) rfl rfl row_fld HF.out.blk rfl rfl HF.out.len HF1.out.len HF1.out.one ?_))
   intro w2_ hb2_ hg2_ hsz2_
   replace HB := kp (put_below HB.out HF_g.out hg2_)
   replace HF := kp (at_mk hb2_ HF1.out.len)
   replace HV := kp (At.off HV.out hg2_ HF_HV.out)
   replace HH := kp (At.off HH.out hg2_ HF_HH.out)
   replace HM := kp (At.off HM.out hg2_ HF_HM.out)
   clear hb2_ hg2_ hsz2_
   try clear w_
   rename World => w_
   clear cm
   go_wp2_with (first | (with_reducible refine wpl_loadb (o := ⟨some 23, _, _, _, _, _⟩) rfl rfl row_fld HF.out.blk rfl HF.out.len ?_))
   refine (TN1'.out _ _ _ _ _ _ (HSL.out.below HB.out) HB.out.size (by rw [HNL.out]; exact HLC.out) (by rw [HNL.out]; exact Nat.le_trans HLL.out HN0.out)).mono ?_
   rintro e w2_ hr_
   obtain ⟨hb_, ⟨x, hx, rfl⟩ | ⟨v, t, f, A2, c2, hx, rfl, hcl, hfv, hs2, hc2⟩⟩ := hr_.get
   ·skip
    have HX := kp (show lookH l = .error x by have h := HLK_.out; rw [hx] at h; exact h.symm)
    have HXN := kp (show x ≠ 0 from numR_err hx)
    clear hr_ hx HF HM
    replace HV := kp (HV.out.grow hb_)
    replace HH := kp (HH.out.grow hb_)
    replace HB := kp (HB.out.grow' hb_)
    clear hb_
    try clear w_
    rename World => w_
    have HGZ := kp (show Cl 37 (gotV noF (x : Int) nilS) from gotV_cl noF_cl rfl)
    have HG35 := kp (show (gotV noF (x : Int) nilS)[35]? = some (.int .i64 (x : Int)) from (gotV_at noF_cl).1)
    obtain ⟨gz, hgz⟩ : ∃ q, q = gotV noF (x : Int) nilS := ⟨_, rfl⟩
    rw [← hgz] at HGZ HG35 ⊢
    clear hgz
    go_wp2_with (first | (with_reducible refine wpl_alloc (o := ⟨some 8, _, _, _, _, _⟩) rfl rfl zero_got ?_))
    intro w2_ hb2_ hb_ hsz2_
    have HX_ := kp (at_mk hb2_ len_got)
    clear hb2_ hsz2_
    have HG_ := kp HB.out.size
    have HG_HV := kp (Nat.ne_of_lt HV.out.lt)
    have HG_HH := kp (Nat.ne_of_lt HH.out.lt)
    replace HB := kp (HB.out.grow' hb_)
    replace HV := kp (HV.out.grow hb_)
    replace HH := kp (HH.out.grow hb_)
    generalize hg_ : w_.heap.size = g8 at HX_ HG_ HG_HV HG_HH ⊢
    clear hg_
    have HG_g := HG_
    clear HG_
    have HG := HX_
    clear hb_ HX_
    try clear w_
    rename World => w_
    go_wp2_with (first | (with_reducible refine wpl_storeb (o := ⟨none, .store _ _ _, _, _, _, _⟩) rfl rfl row_got HG.out.blk rfl rfl HG.out.len HGZ.out.len HGZ.out.one ?_))
    intro w2_ hb2_ hg2_ hsz2_
    replace HB := kp (put_below HB.out HG_g.out hg2_)
    replace HG := kp (at_mk hb2_ HGZ.out.len)
    replace HV := kp (At.off HV.out hg2_ HG_HV.out)
    clear hb2_ hg2_ hsz2_
    try clear w_
    rename World => w_
    have c35 := HG.out.blk.at_ HG35.out
    have d0 : ((x : Int) != 0) = true := by simp; exact HXN.out
    try go_wp2_with fail
    repeat' (first | (with_reducible refine wp_plan (id := 11) (fun a b => a.grownBy b (some g2)) [0,0,1,4,0] (.get 0 (.get 1 (.get 2 (.act 3 (.get 4 .done))))) (by kernel_rfl) (by kernel_rfl) (fun a => grownBy_refl a _) (fun _ _ _ h k => grownBy_trans h k) ?_) | go_values | go_skip | go_guarded | go_step | go_upon | go_back)
    intro w_ hd_
    have hb_ := hd_.grow
    replace HB := kp (HB.out.grow' hb_)
    replace HV := kp (HV.out.grow hb_)
    replace HG := kp (HG.out.grow hb_)
    clear hb_ hd_
    refine pl_calm rfl rfl (by exact wanted_none rfl) (fun w_ => by exact exec_build rfl T0.out w_) (fun K hK => ?_)
    go_simp
    refine hK _ _ ?_
    clear hK K
    repeat ((first | refine pl_calm rfl rfl (by first | exact wanted_none rfl | (go_simp; done) | rfl) (fun w_ => by first | (go_simp; rfl) | (go_simp; done) | rfl) (fun K hK => ?_) | refine pl_skip rfl (by first | (go_simp; done) | rfl) (fun K hK => ?_) | refine pl_skipa rfl (by first | (go_simp; done) | rfl) (fun K hK => ?_)); go_simp; refine hK _ _ ?_; clear hK K)
    refine pl_read rfl rfl (by exact wanted_none rfl) (v := .int .i64 (x : Int)) (fun w3_ hf_ => by have c9 := (HG.out.blk.grown hf_ (fun e => HG_HV.out (Option.some.inj e).symm)).at_ HG35.out; first | (go_simp; rfl) | (go_simp; done)) (fun K hK => ?_)
    go_simp
    refine hK _ _ ?_
    clear hK K
    refine pl_act rfl (by exact wanted_none rfl) (fun K hK => ?_)
    show wpList _ _ _ [⟨none, .store _ _ _, _, _, _, _⟩] _ _
    go_wp2_with (first | (with_reducible refine wpl_storeb (o := ⟨none, .store _ _ _, _, _, _, _⟩) rfl rfl row_hd HV.out.blk rfl rfl HV.out.len HCZ.out.len HCZ.out.one ?_))
    intro w2_ hb2_ hg2_ hsz2_
    go_wp2_with fail
    refine hK _ _ (fun _ => hg2_) ?_
    clear hK K
    replace HB := kp (put_below HB.out HV_g.out hg2_)
    replace HV := kp (at_mk hb2_ HCZ.out.len)
    clear hb2_ hg2_ hsz2_
    repeat ((first | refine pl_calm rfl rfl (by first | exact wanted_none rfl | (go_simp; done) | rfl) (fun w_ => by first | (go_simp; rfl) | (go_simp; done) | rfl) (fun K hK => ?_) | refine pl_skip rfl (by first | (go_simp; done) | rfl) (fun K hK => ?_) | refine pl_skipa rfl (by first | (go_simp; done) | rfl) (fun K hK => ?_)); go_simp; refine hK _ _ ?_; clear hK K)
    refine pl_done ?_
    go_wp2_with fail
    refine ret_cell_tmp rfl row_hd HV.out.blk rfl HV.out.len rfl rfl ?_
    exact ⟨by rw [(HRE.out x HX.out).1, (HRE.out x HX.out).2]; rfl, HB.out⟩
   ·skip
    have HLN := kp (show lfH 3 ({ hi with epoch := (v : Int) }) t = lookH l by have h := HLK_.out; rw [hx] at h; exact h)
    have HTL := kp (show t.length ≤ l.length from Nat.le_trans (numR_le hx).2.2 HLL.out)
    have HVM := kp (numR_le hx).1
    have HGC := kp (show Cl 37 (gotV f 0 (.slice A2 t.length c2)) from gotV_cl hcl rfl)
    have HG35 := kp (show (gotV f 0 (.slice A2 t.length c2))[35]? = some (.int .i64 0) from (gotV_at hcl).1)
    have HG36 := kp (show (gotV f 0 (.slice A2 t.length c2))[36]? = some (.slice A2 t.length c2) from (gotV_at hcl).2.1)
    have HG1 := kp (show (gotV f 0 (.slice A2 t.length c2))[1]? = some (.int .u64 (v : Int)) from (gotV_at hcl).2.2 _ _ (by rw [show f = _ from hfv]; rfl))
    have HS2 := kp (show Sl w w.heap.size 1 A2 t.length (t.map B) from hs2.back (HB.out.grow' hb_))
    have HC2 := kp hc2
    obtain ⟨tl, htl⟩ : ∃ q, q = t.length := ⟨_, rfl⟩
    obtain ⟨gv, hgv⟩ : ∃ q, q = gotV f 0 (.slice A2 t.length c2) := ⟨_, rfl⟩
    rw [← hgv] at HGC HG35 HG36 HG1 ⊢
    rw [← htl] at HG36
    have HTE := kp htl
    clear hr_ hx hcl hfv hs2 hc2 hgv htl HF HSL HLI HLK_ HLC HNL HLL
    replace HV := kp (HV.out.grow hb_)
    replace HH := kp (HH.out.grow hb_)
    replace HM := kp (HM.out.grow hb_)
    replace HB := kp (HB.out.grow' hb_)
    clear hb_
    try clear w_
    rename World => w_
    go_wp2_with (first | (with_reducible refine wpl_alloc (o := ⟨some 8, _, _, _, _, _⟩) rfl rfl zero_got ?_))
    intro w2_ hb2_ hb_ hsz2_
    have HX_ := kp (at_mk hb2_ len_got)
    clear hb2_ hsz2_
    have HG_ := kp HB.out.size
    have HG_HV := kp (Nat.ne_of_lt HV.out.lt)
    have HG_HH := kp (Nat.ne_of_lt HH.out.lt)
    have HG_HM := kp (Nat.ne_of_lt HM.out.lt)
    replace HB := kp (HB.out.grow' hb_)
    replace HV := kp (HV.out.grow hb_)
    replace HH := kp (HH.out.grow hb_)
    replace HM := kp (HM.out.grow hb_)
    generalize hg_ : w_.heap.size = g8 at HX_ HG_ HG_HV HG_HH HG_HM ⊢
    clear hg_
    have HG_g := HG_
    clear HG_
    have HG := HX_
    clear hb_ HX_
    try clear w_
    rename World => w_
    go_wp2_with (first | (with_reducible refine wpl_storeb (o := ⟨none, .store _ _ _, _, _, _, _⟩) rfl rfl row_got HG.out.blk rfl rfl HG.out.len HGC.out.len HGC.out.one ?_))
    intro w2_ hb2_ hg2_ hsz2_
    replace HB := kp (put_below HB.out HG_g.out hg2_)
    replace HG := kp (at_mk hb2_ HGC.out.len)
    replace HV := kp (At.off HV.out hg2_ HG_HV.out)
    replace HH := kp (At.off HH.out hg2_ HG_HH.out)
    replace HM := kp (At.off HM.out hg2_ HG_HM.out)
    clear hb2_ hg2_ hsz2_
    try clear w_
    rename World => w_
    have c35 := HG.out.blk.at_ HG35.out
    have c36 := HG.out.blk.at_ HG36.out
    have c1 := HG.out.blk.at_ HG1.out
    have q1 : IntKind.i64.wrap (v : Int) = (v : Int) := IntWalk.i64_in _ (by have := HVM.out; omega)
    go_wp2_with (first | (refine wpl_store1 (o := ⟨none, .store _ _ _, _, _, _, _⟩) rfl rfl HH.out.blk rfl rfl (by kernel_rfl) rfl rfl (by have := HH.out.len; omega) ?_))
    intro w2_ hb2_ hg2_ hsz2_
    replace HB := kp (put_below HB.out HH_g.out hg2_)
    replace HH := kp (at_mk hb2_ ((List.length_set ..).trans HH.out.len))
    replace HV := kp (At.off HV.out hg2_ HH_HV.out)
    replace HM := kp (At.off HM.out hg2_ HM_H2.out)
    clear hb2_ hg2_ hsz2_
    try clear w_
    rename World => w_
    clear c1 q1
    replace HH := kp (show At w_ g4 33 67 (hdrV ({ hi with epoch := (v : Int) })) from HH.out)
    clear c35 c36
    have HHN := kp (show Hdr.half ({ hi with epoch := (v : Int) }) from ⟨HHF.out.1, HHF.out.2.1, HHF.out.2.2.1, HHF.out.2.2.2⟩)
    go_wp2_with fail
    go_roundw
    case rel => exact ⟨3, A2, c2, t, { hi with epoch := (v : Int) }, by omega, rfl, by rw [HTE.out], kp ⟨HLN.out, HHN.out, HTL.out, HC2.out, HS2.out, HV.out, HH.out, HM.out, HB.out⟩⟩
    case measure => simp [intOf]
  ·skip
   have HLK := HLI.out
   rw [lfH] at HLK
   have HLK_ := kp HLK
   clear HLK
   go_wp2_with (first | (with_reducible refine wpl_stop (o := ⟨some 14, _, _, _, _, _⟩) ?_))
   refine stop_go ?_
   refine wpl_build rfl rfl TF2.out ?_
   go_wp2_with (first | (with_reducible refine wpl_alloc (o := ⟨some 7, _, _, _, _, _⟩) rfl rfl zero_fld ?_))
   intro w2_ hb2_ hb_ hsz2_
   have HX_ := kp (at_mk hb2_ len_fld)
   clear hb2_ hsz2_
   have HG_ := kp HB.out.size
   have HF_HV := kp (Nat.ne_of_lt HV.out.lt)
   have HF_HH := kp (Nat.ne_of_lt HH.out.lt)
   have HF_HM := kp (Nat.ne_of_lt HM.out.lt)
   replace HB := kp (HB.out.grow' hb_)
   replace HV := kp (HV.out.grow hb_)
   replace HH := kp (HH.out.grow hb_)
   replace HM := kp (HM.out.grow hb_)
   generalize hg_ : w_.heap.size = g7 at HX_ HG_ HF_HV HF_HH HF_HM ⊢
   clear hg_
   have HF_g := HG_
   clear HG_
   have HF := HX_
   clear hb_ HX_
   try clear w_
   rename World => w_
   go_wp2_with (first | (with_reducible refine wpl_storeb (o := ⟨none, .store _ _ _, _, _, _, _⟩) rfl rfl row_fld HF.out.blk rfl rfl HF.out.len HF2.out.len HF2.out.one ?_))
   intro w2_ hb2_ hg2_ hsz2_
   replace HB := kp (put_below HB.out HF_g.out hg2_)
   replace HF := kp (at_mk hb2_ HF2.out.len)
   replace HV := kp (At.off HV.out hg2_ HF_HV.out)
   replace HH := kp (At.off HH.out hg2_ HF_HH.out)
   replace HM := kp (At.off HM.out hg2_ HF_HM.out)
   clear hb2_ hg2_ hsz2_
   try clear w_
   rename World => w_
   go_wp2_with (first | (with_reducible refine wpl_loadb (o := ⟨some 23, _, _, _, _, _⟩) rfl rfl row_fld HF.out.blk rfl HF.out.len ?_))
   refine (TK.out _ _ _ _ _ _ (HSL.out.below HB.out) HB.out.size (by rw [HNL.out]; exact HLC.out) (by rw [HNL.out]; exact Nat.le_trans HLL.out HN0.out)).mono ?_
   rintro e w2_ hr_
   obtain ⟨hb_, ⟨x, hx, rfl⟩ | ⟨v, t, f, A2, c2, hx, rfl, hcl, hfv, hs2, hc2⟩⟩ := hr_.get
   ·skip
    have HX := kp (show lookH l = .error x by have h := HLK_.out; rw [hx] at h; exact h.symm)
    have HXN := kp (show x ≠ 0 from takeR_err hx)
    clear hr_ hx HF HM
    replace HV := kp (HV.out.grow hb_)
    replace HH := kp (HH.out.grow hb_)
    replace HB := kp (HB.out.grow' hb_)
    clear hb_
    try clear w_
    rename World => w_
    have HGZ := kp (show Cl 37 (gotV noF (x : Int) nilS) from gotV_cl noF_cl rfl)
    have HG35 := kp (show (gotV noF (x : Int) nilS)[35]? = some (.int .i64 (x : Int)) from (gotV_at noF_cl).1)
    obtain ⟨gz, hgz⟩ : ∃ q, q = gotV noF (x : Int) nilS := ⟨_, rfl⟩
    rw [← hgz] at HGZ HG35 ⊢
    clear hgz
    go_wp2_with (first | (with_reducible refine wpl_alloc (o := ⟨some 8, _, _, _, _, _⟩) rfl rfl zero_got ?_))
    intro w2_ hb2_ hb_ hsz2_
    have HX_ := kp (at_mk hb2_ len_got)
    clear hb2_ hsz2_
    have HG_ := kp HB.out.size
    have HG_HV := kp (Nat.ne_of_lt HV.out.lt)
    have HG_HH := kp (Nat.ne_of_lt HH.out.lt)
    replace HB := kp (HB.out.grow' hb_)
    replace HV := kp (HV.out.grow hb_)
    replace HH := kp (HH.out.grow hb_)
    generalize hg_ : w_.heap.size = g8 at HX_ HG_ HG_HV HG_HH ⊢
    clear hg_
    have HG_g := HG_
    clear HG_
    have HG := HX_
    clear hb_ HX_
    try clear w_
    rename World => w_
    go_wp2_with (first | (with_reducible refine wpl_storeb (o := ⟨none, .store _ _ _, _, _, _, _⟩) rfl rfl row_got HG.out.blk rfl rfl HG.out.len HGZ.out.len HGZ.out.one ?_))
    intro w2_ hb2_ hg2_ hsz2_
    replace HB := kp (put_below HB.out HG_g.out hg2_)
    replace HG := kp (at_mk hb2_ HGZ.out.len)
    replace HV := kp (At.off HV.out hg2_ HG_HV.out)
    clear hb2_ hg2_ hsz2_
    try clear w_
    rename World => w_
    have c35 := HG.out.blk.at_ HG35.out
    have d0 : ((x : Int) != 0) = true := by simp; exact HXN.out
    try go_wp2_with fail
    repeat' (first | (with_reducible refine wp_plan (id := 11) (fun a b => a.grownBy b (some g2)) [0,0,1,4,0] (.get 0 (.get 1 (.get 2 (.act 3 (.get 4 .done))))) (by kernel_rfl) (by kernel_rfl) (fun a => grownBy_refl a _) (fun _ _ _ h k => grownBy_trans h k) ?_) | go_values | go_skip | go_guarded | go_step | go_upon | go_back)
    intro w_ hd_
    have hb_ := hd_.grow
    replace HB := kp (HB.out.grow' hb_)
    replace HV := kp (HV.out.grow hb_)
    replace HG := kp (HG.out.grow hb_)
    clear hb_ hd_
    refine pl_calm rfl rfl (by exact wanted_none rfl) (fun w_ => by exact exec_build rfl T0.out w_) (fun K hK => ?_)
    go_simp
    refine hK _ _ ?_
    clear hK K
    repeat ((first | refine pl_calm rfl rfl (by first | exact wanted_none rfl | (go_simp; done) | rfl) (fun w_ => by first | (go_simp; rfl) | (go_simp; done) | rfl) (fun K hK => ?_) | refine pl_skip rfl (by first | (go_simp; done) | rfl) (fun K hK => ?_) | refine pl_skipa rfl (by first | (go_simp; done) | rfl) (fun K hK => ?_)); go_simp; refine hK _ _ ?_; clear hK K)
    refine pl_read rfl rfl (by exact wanted_none rfl) (v := .int .i64 (x : Int)) (fun w3_ hf_ => by have c9 := (HG.out.blk.grown hf_ (fun e => HG_HV.out (Option.some.inj e).symm)).at_ HG35.out; first | (go_simp; rfl) | (go_simp; done)) (fun K hK => ?_)
    go_simp
    refine hK _ _ ?_
    clear hK K
    refine pl_act rfl (by exact wanted_none rfl) (fun K hK => ?_)
    show wpList _ _ _ [⟨none, .store _ _ _, _, _, _, _⟩] _ _
    go_wp2_with (first | (with_reducible refine wpl_storeb (o := ⟨none, .store _ _ _, _, _, _, _⟩) rfl rfl row_hd HV.out.blk rfl rfl HV.out.len HCZ.out.len HCZ.out.one ?_))
    intro w2_ hb2_ hg2_ hsz2_
    go_wp2_with fail
    refine hK _ _ (fun _ => hg2_) ?_
    clear hK K
    replace HB := kp (put_below HB.out HV_g.out hg2_)
    replace HV := kp (at_mk hb2_ HCZ.out.len)
    clear hb2_ hg2_ hsz2_
    repeat ((first | refine pl_calm rfl rfl (by first | exact wanted_none rfl | (go_simp; done) | rfl) (fun w_ => by first | (go_simp; rfl) | (go_simp; done) | rfl) (fun K hK => ?_) | refine pl_skip rfl (by first | (go_simp; done) | rfl) (fun K hK => ?_) | refine pl_skipa rfl (by first | (go_simp; done) | rfl) (fun K hK => ?_)); go_simp; refine hK _ _ ?_; clear hK K)
    refine pl_done ?_
    go_wp2_with fail
    refine ret_cell_tmp rfl row_hd HV.out.blk rfl HV.out.len rfl rfl ?_
    exact ⟨by rw [(HRE.out x HX.out).1, (HRE.out x HX.out).2]; rfl, HB.out⟩
   ·skip
    have HLN := kp (show lfH 4 ({ hi with prev := v }) t = lookH l by have h := HLK_.out; rw [hx] at h; exact h)
    have HTL := kp (show t.length ≤ l.length from Nat.le_trans (takeR_le hx).2 HLL.out)
    have HD := kp (dig_map (takeR_le hx).1)
    have HGC := kp (show Cl 37 (gotV f 0 (.slice A2 t.length c2)) from gotV_cl hcl rfl)
    have HG35 := kp (show (gotV f 0 (.slice A2 t.length c2))[35]? = some (.int .i64 0) from (gotV_at hcl).1)
    have HG36 := kp (show (gotV f 0 (.slice A2 t.length c2))[36]? = some (.slice A2 t.length c2) from (gotV_at hcl).2.1)
    have HGD := kp (show ∀ (j : Nat) (u : Value), (v.map B)[j]? = some u → (gotV f 0 (.slice A2 t.length c2))[3 + j]? = some u from fun j u hu => (gotV_at hcl).2.2 _ _ (by rw [show f = _ from hfv]; unfold fieldV; rw [List.getElem?_append_right (by simp)]; simpa using hu))
    have HS2 := kp (show Sl w w.heap.size 1 A2 t.length (t.map B) from hs2.back (HB.out.grow' hb_))
    have HC2 := kp hc2
    obtain ⟨tl, htl⟩ : ∃ q, q = t.length := ⟨_, rfl⟩
    obtain ⟨gv, hgv⟩ : ∃ q, q = gotV f 0 (.slice A2 t.length c2) := ⟨_, rfl⟩
    rw [← hgv] at HGC HG35 HG36 HGD ⊢
    rw [← htl] at HG36
    have HTE := kp htl
    clear hr_ hx hcl hfv hs2 hc2 hgv htl HF HSL HLI HLK_ HLC HNL HLL
    replace HV := kp (HV.out.grow hb_)
    replace HH := kp (HH.out.grow hb_)
    replace HM := kp (HM.out.grow hb_)
    replace HB := kp (HB.out.grow' hb_)
    clear hb_
    try clear w_
    rename World => w_
    go_wp2_with (first | (with_reducible refine wpl_alloc (o := ⟨some 8, _, _, _, _, _⟩) rfl rfl zero_got ?_))
    intro w2_ hb2_ hb_ hsz2_
    have HX_ := kp (at_mk hb2_ len_got)
    clear hb2_ hsz2_
    have HG_ := kp HB.out.size
    have HG_HV := kp (Nat.ne_of_lt HV.out.lt)
    have HG_HH := kp (Nat.ne_of_lt HH.out.lt)
    have HG_HM := kp (Nat.ne_of_lt HM.out.lt)
    replace HB := kp (HB.out.grow' hb_)
    replace HV := kp (HV.out.grow hb_)
    replace HH := kp (HH.out.grow hb_)
    replace HM := kp (HM.out.grow hb_)
    generalize hg_ : w_.heap.size = g8 at HX_ HG_ HG_HV HG_HH HG_HM ⊢
    clear hg_
    have HG_g := HG_
    clear HG_
    have HG := HX_
    clear hb_ HX_
    try clear w_
    rename World => w_
    go_wp2_with (first | (with_reducible refine wpl_storeb (o := ⟨none, .store _ _ _, _, _, _, _⟩) rfl rfl row_got HG.out.blk rfl rfl HG.out.len HGC.out.len HGC.out.one ?_))
    intro w2_ hb2_ hg2_ hsz2_
    replace HB := kp (put_below HB.out HG_g.out hg2_)
    replace HG := kp (at_mk hb2_ HGC.out.len)
    replace HV := kp (At.off HV.out hg2_ HG_HV.out)
    replace HH := kp (At.off HH.out hg2_ HG_HH.out)
    replace HM := kp (At.off HM.out hg2_ HG_HM.out)
    clear hb2_ hg2_ hsz2_
    try clear w_
    rename World => w_
    have c35 := HG.out.blk.at_ HG35.out
    have c36 := HG.out.blk.at_ HG36.out
    have HGM := kp (show ∀ (j : Nat) (u : Value), (v.map B)[j]? = some u → w_.cell? ⟨g8, 3 + j, none⟩ = some u from fun j u hu => HG.out.blk.at_ (HGD.out j u hu))
    go_wp2_with (first | (with_reducible refine wpl_loadm (o := ⟨some 59, _, _, _, _, _⟩) rfl rfl row_id HGM.out rfl HD.out.len ?_) | (with_reducible refine wpl_storem (o := ⟨none, .store _ _ _, _, _, _, _⟩) rfl rfl row_id HH.out.blk rfl rfl HD.out.len (by have := HH.out.len; omega) HD.out.one ?_))
    intro w2_ hb2_ hg2_ hsz2_
    replace HB := kp (put_below HB.out HH_g.out hg2_)
    replace HH := kp (at_mk hb2_ (splice_length (by have h1 := HH.out.len; have h2 := HD.out.len; omega) HH.out.len))
    replace HV := kp (At.off HV.out hg2_ HH_HV.out)
    replace HM := kp (At.off HM.out hg2_ HM_H2.out)
    clear hb2_ hg2_ hsz2_
    try clear w_
    rename World => w_
    rw [prev_splice HHF.out HD.out.2] at HH
    clear c35 c36
    have HHN := kp (show Hdr.half ({ hi with prev := v }) from ⟨HD.out.2, HHF.out.2.1, HHF.out.2.2.1, HHF.out.2.2.2⟩)
    go_wp2_with fail
    go_roundw
    case rel => exact ⟨4, A2, c2, t, { hi with prev := v }, by omega, rfl, by rw [HTE.out], kp ⟨HLN.out, HHN.out, HTL.out, HC2.out, HS2.out, HV.out, HH.out, HM.out, HB.out⟩⟩
    case measure => simp [intOf]
  ·skip
   have HLK := HLI.out
   rw [lfH] at HLK
   have HLK_ := kp HLK
   clear HLK
   go_wp2_with (first | (with_reducible refine wpl_stop (o := ⟨some 14, _, _, _, _, _⟩) ?_))
   refine stop_go ?_
   refine wpl_build rfl rfl TF2.out ?_
   go_wp2_with (first | (with_reducible refine wpl_alloc (o := ⟨some 7, _, _, _, _, _⟩) rfl rfl zero_fld ?_))
   intro w2_ hb2_ hb_ hsz2_
   have HX_ := kp (at_mk hb2_ len_fld)
   clear hb2_ hsz2_
   have HG_ := kp HB.out.size
   have HF_HV := kp (Nat.ne_of_lt HV.out.lt)
   have HF_HH := kp (Nat.ne_of_lt HH.out.lt)
   have HF_HM := kp (Nat.ne_of_lt HM.out.lt)
   replace HB := kp (HB.out.grow' hb_)
   replace HV := kp (HV.out.grow hb_)
   replace HH := kp (HH.out.grow hb_)
   replace HM := kp (HM.out.grow hb_)
   generalize hg_ : w_.heap.size = g7 at HX_ HG_ HF_HV HF_HH HF_HM ⊢
   clear hg_
   have HF_g := HG_
   clear HG_
   have HF := HX_
   clear hb_ HX_
   try clear w_
   rename World => w_
   go_wp2_with (first | (with_reducible refine wpl_storeb (o := ⟨none, .store _ _ _, _, _, _, _⟩) rfl rfl row_fld HF.out.blk rfl rfl HF.out.len HF2.out.len HF2.out.one ?_))
   intro w2_ hb2_ hg2_ hsz2_
   replace HB := kp (put_below HB.out HF_g.out hg2_)
   replace HF := kp (at_mk hb2_ HF2.out.len)
   replace HV := kp (At.off HV.out hg2_ HF_HV.out)
   replace HH := kp (At.off HH.out hg2_ HF_HH.out)
   replace HM := kp (At.off HM.out hg2_ HF_HM.out)
   clear hb2_ hg2_ hsz2_
   try clear w_
   rename World => w_
   go_wp2_with (first | (with_reducible refine wpl_loadb (o := ⟨some 23, _, _, _, _, _⟩) rfl rfl row_fld HF.out.blk rfl HF.out.len ?_))
   refine (TK.out _ _ _ _ _ _ (HSL.out.below HB.out) HB.out.size (by rw [HNL.out]; exact HLC.out) (by rw [HNL.out]; exact Nat.le_trans HLL.out HN0.out)).mono ?_
   rintro e w2_ hr_
   obtain ⟨hb_, ⟨x, hx, rfl⟩ | ⟨v, t, f, A2, c2, hx, rfl, hcl, hfv, hs2, hc2⟩⟩ := hr_.get
   ·skip
    have HX := kp (show lookH l = .error x by have h := HLK_.out; rw [hx] at h; exact h.symm)
    have HXN := kp (show x ≠ 0 from takeR_err hx)
    clear hr_ hx HF HM
    replace HV := kp (HV.out.grow hb_)
    replace HH := kp (HH.out.grow hb_)
    replace HB := kp (HB.out.grow' hb_)
    clear hb_
    try clear w_
    rename World => w_
    have HGZ := kp (show Cl 37 (gotV noF (x : Int) nilS) from gotV_cl noF_cl rfl)
    have HG35 := kp (show (gotV noF (x : Int) nilS)[35]? = some (.int .i64 (x : Int)) from (gotV_at noF_cl).1)
    obtain ⟨gz, hgz⟩ : ∃ q, q = gotV noF (x : Int) nilS := ⟨_, rfl⟩
    rw [← hgz] at HGZ HG35 ⊢
    clear hgz
    go_wp2_with (first | (with_reducible refine wpl_alloc (o := ⟨some 8, _, _, _, _, _⟩) rfl rfl zero_got ?_))
    intro w2_ hb2_ hb_ hsz2_
    have HX_ := kp (at_mk hb2_ len_got)
    clear hb2_ hsz2_
    have HG_ := kp HB.out.size
    have HG_HV := kp (Nat.ne_of_lt HV.out.lt)
    have HG_HH := kp (Nat.ne_of_lt HH.out.lt)
    replace HB := kp (HB.out.grow' hb_)
    replace HV := kp (HV.out.grow hb_)
    replace HH := kp (HH.out.grow hb_)
    generalize hg_ : w_.heap.size = g8 at HX_ HG_ HG_HV HG_HH ⊢
    clear hg_
    have HG_g := HG_
    clear HG_
    have HG := HX_
    clear hb_ HX_
    try clear w_
    rename World => w_
    go_wp2_with (first | (with_reducible refine wpl_storeb (o := ⟨none, .store _ _ _, _, _, _, _⟩) rfl rfl row_got HG.out.blk rfl rfl HG.out.len HGZ.out.len HGZ.out.one ?_))
    intro w2_ hb2_ hg2_ hsz2_
    replace HB := kp (put_below HB.out HG_g.out hg2_)
    replace HG := kp (at_mk hb2_ HGZ.out.len)
    replace HV := kp (At.off HV.out hg2_ HG_HV.out)
    clear hb2_ hg2_ hsz2_
    try clear w_
    rename World => w_
    have c35 := HG.out.blk.at_ HG35.out
    have d0 : ((x : Int) != 0) = true := by simp; exact HXN.out
    try go_wp2_with fail
    repeat' (first | (with_reducible refine wp_plan (id := 11) (fun a b => a.grownBy b (some g2)) [0,0,1,4,0] (.get 0 (.get 1 (.get 2 (.act 3 (.get 4 .done))))) (by kernel_rfl) (by kernel_rfl) (fun a => grownBy_refl a _) (fun _ _ _ h k => grownBy_trans h k) ?_) | go_values | go_skip | go_guarded | go_step | go_upon | go_back)
    intro w_ hd_
    have hb_ := hd_.grow
    replace HB := kp (HB.out.grow' hb_)
    replace HV := kp (HV.out.grow hb_)
    replace HG := kp (HG.out.grow hb_)
    clear hb_ hd_
    refine pl_calm rfl rfl (by exact wanted_none rfl) (fun w_ => by exact exec_build rfl T0.out w_) (fun K hK => ?_)
    go_simp
    refine hK _ _ ?_
    clear hK K
    repeat ((first | refine pl_calm rfl rfl (by first | exact wanted_none rfl | (go_simp; done) | rfl) (fun w_ => by first | (go_simp; rfl) | (go_simp; done) | rfl) (fun K hK => ?_) | refine pl_skip rfl (by first | (go_simp; done) | rfl) (fun K hK => ?_) | refine pl_skipa rfl (by first | (go_simp; done) | rfl) (fun K hK => ?_)); go_simp; refine hK _ _ ?_; clear hK K)
    refine pl_read rfl rfl (by exact wanted_none rfl) (v := .int .i64 (x : Int)) (fun w3_ hf_ => by have c9 := (HG.out.blk.grown hf_ (fun e => HG_HV.out (Option.some.inj e).symm)).at_ HG35.out; first | (go_simp; rfl) | (go_simp; done)) (fun K hK => ?_)
    go_simp
    refine hK _ _ ?_
    clear hK K
    refine pl_act rfl (by exact wanted_none rfl) (fun K hK => ?_)
    show wpList _ _ _ [⟨none, .store _ _ _, _, _, _, _⟩] _ _
    go_wp2_with (first | (with_reducible refine wpl_storeb (o := ⟨none, .store _ _ _, _, _, _, _⟩) rfl rfl row_hd HV.out.blk rfl rfl HV.out.len HCZ.out.len HCZ.out.one ?_))
    intro w2_ hb2_ hg2_ hsz2_
    go_wp2_with fail
    refine hK _ _ (fun _ => hg2_) ?_
    clear hK K
    replace HB := kp (put_below HB.out HV_g.out hg2_)
    replace HV := kp (at_mk hb2_ HCZ.out.len)
    clear hb2_ hg2_ hsz2_
    repeat ((first | refine pl_calm rfl rfl (by first | exact wanted_none rfl | (go_simp; done) | rfl) (fun w_ => by first | (go_simp; rfl) | (go_simp; done) | rfl) (fun K hK => ?_) | refine pl_skip rfl (by first | (go_simp; done) | rfl) (fun K hK => ?_) | refine pl_skipa rfl (by first | (go_simp; done) | rfl) (fun K hK => ?_)); go_simp; refine hK _ _ ?_; clear hK K)
    refine pl_done ?_
    go_wp2_with fail
    refine ret_cell_tmp rfl row_hd HV.out.blk rfl HV.out.len rfl rfl ?_
    exact ⟨by rw [(HRE.out x HX.out).1, (HRE.out x HX.out).2]; rfl, HB.out⟩
   ·skip
    have HLN := kp (show lfH 5 ({ hi with root := v }) t = lookH l by have h := HLK_.out; rw [hx] at h; rw [lfH]; exact h; all_goals omega)
    have HTL := kp (show t.length ≤ l.length from Nat.le_trans (takeR_le hx).2 HLL.out)
    have HD := kp (dig_map (takeR_le hx).1)
    have HGC := kp (show Cl 37 (gotV f 0 (.slice A2 t.length c2)) from gotV_cl hcl rfl)
    have HG35 := kp (show (gotV f 0 (.slice A2 t.length c2))[35]? = some (.int .i64 0) from (gotV_at hcl).1)
    have HG36 := kp (show (gotV f 0 (.slice A2 t.length c2))[36]? = some (.slice A2 t.length c2) from (gotV_at hcl).2.1)
    have HGD := kp (show ∀ (j : Nat) (u : Value), (v.map B)[j]? = some u → (gotV f 0 (.slice A2 t.length c2))[3 + j]? = some u from fun j u hu => (gotV_at hcl).2.2 _ _ (by rw [show f = _ from hfv]; unfold fieldV; rw [List.getElem?_append_right (by simp)]; simpa using hu))
    have HS2 := kp (show Sl w w.heap.size 1 A2 t.length (t.map B) from hs2.back (HB.out.grow' hb_))
    have HC2 := kp hc2
    obtain ⟨tl, htl⟩ : ∃ q, q = t.length := ⟨_, rfl⟩
    obtain ⟨gv, hgv⟩ : ∃ q, q = gotV f 0 (.slice A2 t.length c2) := ⟨_, rfl⟩
    rw [← hgv] at HGC HG35 HG36 HGD ⊢
    rw [← htl] at HG36
    have HTE := kp htl
    clear hr_ hx hcl hfv hs2 hc2 hgv htl HF HSL HLI HLK_ HLC HNL HLL
    replace HV := kp (HV.out.grow hb_)
    replace HH := kp (HH.out.grow hb_)
    replace HM := kp (HM.out.grow hb_)
    replace HB := kp (HB.out.grow' hb_)
    clear hb_
    try clear w_
    rename World => w_
    go_wp2_with (first | (with_reducible refine wpl_alloc (o := ⟨some 8, _, _, _, _, _⟩) rfl rfl zero_got ?_))
    intro w2_ hb2_ hb_ hsz2_
    have HX_ := kp (at_mk hb2_ len_got)
    clear hb2_ hsz2_
    have HG_ := kp HB.out.size
    have HG_HV := kp (Nat.ne_of_lt HV.out.lt)
    have HG_HH := kp (Nat.ne_of_lt HH.out.lt)
    have HG_HM := kp (Nat.ne_of_lt HM.out.lt)
    replace HB := kp (HB.out.grow' hb_)
    replace HV := kp (HV.out.grow hb_)
    replace HH := kp (HH.out.grow hb_)
    replace HM := kp (HM.out.grow hb_)
    generalize hg_ : w_.heap.size = g8 at HX_ HG_ HG_HV HG_HH HG_HM ⊢
    clear hg_
    have HG_g := HG_
    clear HG_
    have HG := HX_
    clear hb_ HX_
    try clear w_
    rename World => w_
    go_wp2_with (first | (with_reducible refine wpl_storeb (o := ⟨none, .store _ _ _, _, _, _, _⟩) rfl rfl row_got HG.out.blk rfl rfl HG.out.len HGC.out.len HGC.out.one ?_))
    intro w2_ hb2_ hg2_ hsz2_
    replace HB := kp (put_below HB.out HG_g.out hg2_)
    replace HG := kp (at_mk hb2_ HGC.out.len)
    replace HV := kp (At.off HV.out hg2_ HG_HV.out)
    replace HH := kp (At.off HH.out hg2_ HG_HH.out)
    replace HM := kp (At.off HM.out hg2_ HG_HM.out)
    clear hb2_ hg2_ hsz2_
    try clear w_
    rename World => w_
    have c35 := HG.out.blk.at_ HG35.out
    have c36 := HG.out.blk.at_ HG36.out
    have HGM := kp (show ∀ (j : Nat) (u : Value), (v.map B)[j]? = some u → w_.cell? ⟨g8, 3 + j, none⟩ = some u from fun j u hu => HG.out.blk.at_ (HGD.out j u hu))
    go_wp2_with (first | (with_reducible refine wpl_loadm (o := ⟨some 65, _, _, _, _, _⟩) rfl rfl row_id HGM.out rfl HD.out.len ?_) | (with_reducible refine wpl_storem (o := ⟨none, .store _ _ _, _, _, _, _⟩) rfl rfl row_id HH.out.blk rfl rfl HD.out.len (by have := HH.out.len; omega) HD.out.one ?_))
    intro w2_ hb2_ hg2_ hsz2_
    replace HB := kp (put_below HB.out HH_g.out hg2_)
    replace HH := kp (at_mk hb2_ (splice_length (by have h1 := HH.out.len; have h2 := HD.out.len; omega) HH.out.len))
    replace HV := kp (At.off HV.out hg2_ HH_HV.out)
    replace HM := kp (At.off HM.out hg2_ HM_H2.out)
    clear hb2_ hg2_ hsz2_
    try clear w_
    rename World => w_
    rw [root_splice HHF.out HD.out.2] at HH
    clear c35 c36
    have HHN := kp (show Hdr.half ({ hi with root := v }) from ⟨HHF.out.1, HD.out.2, HHF.out.2.2.1, HHF.out.2.2.2⟩)
    go_wp2_with fail
    go_roundw
    case rel => exact ⟨5, A2, c2, t, { hi with root := v }, by omega, rfl, by rw [HTE.out], kp ⟨HLN.out, HHN.out, HTL.out, HC2.out, HS2.out, HV.out, HH.out, HM.out, HB.out⟩⟩
    case measure => simp [intOf]
  ·skip
   have HLL5 := kp (show lookH l = .ok (hi, li) by have h := HLI.out; rw [lfH] at h; exact h.symm; all_goals omega)
   have HHC := kp (show Cl 67 (hdrV hi) from ⟨half_len HHF.out, hdr_one hi⟩)
   have c1 := HH.out.blk.at_ (show (hdrV hi)[1]? = some (.int .i64 hi.height) from rfl)
   obtain ⟨p2, hp2⟩ : ∃ p, (hi.height == 0) = p := ⟨_, rfl⟩
   have HP1 := kp (show nl = 0 ↔ li = [] by
    rw [HNL.out]
    cases li with
    | nil => simp
    | cons a li => simp)
   have HP2 := kp (show (p2 = true) ↔ hi.height = 0 by rw [← hp2, beq_iff_eq])
   clear hi5
   by_cases hn0 : nl = 0
   ·have HNI := kp (HP1.out.1 hn0)
    subst hn0
    cases p2 with
    | true =>
     go_wp2_with (first | (with_reducible refine wpl_stop (o := ⟨some 75, _, _, _, _, _⟩) ?_))
     refine stop_go ?_
     refine wpl_build rfl rfl T0.out ?_
     go_wp2_with (first | (with_reducible refine wpl_storeb (o := ⟨none, .store _ _ _, _, _, _, _⟩) rfl rfl row_hd HV.out.blk rfl rfl HV.out.len HCZ.out.len HCZ.out.one ?_))
     intro w2_ hb2_ hg2_ hsz2_
     have HV_ := kp hb2_
     have HB_ := kp (put_below HB.out HV_g.out hg2_)
     clear hb2_ hg2_ hsz2_
     go_wp2_with fail
     refine ret_cell_tmp rfl row_hd HV_.out rfl HCZ.out.len rfl rfl ?_
     exact ⟨by rw [(HRN.out hi li HLL5.out (.inr (HP2.out.1 (by simp)))).1, (HRN.out hi li HLL5.out (.inr (HP2.out.1 (by simp)))).2]; rfl, HB_.out⟩
    | false =>
     have HNE := kp (show hi.height ≠ 0 from fun h => by have := HP2.out.2 h; simp at this)
     have HYE := kp (HRY.out hi (by rw [HLL5.out, HNI.out]) HNE.out)
     go_wp2_with (first | (with_reducible refine wpl_loadb (o := ⟨some 76, _, _, _, _, _⟩) rfl rfl row_hd HH.out.blk rfl HH.out.len ?_) | (with_reducible refine wpl_storeb (o := ⟨none, .store _ _ _, _, _, _, _⟩) rfl rfl row_hd HV.out.blk rfl rfl HV.out.len HHC.out.len HHC.out.one ?_))
     intro w2_ hb2_ hg2_ hsz2_
     have HV_ := kp hb2_
     have HB_ := kp (put_below HB.out HV_g.out hg2_)
     clear hb2_ hg2_ hsz2_
     go_wp2_with fail
     refine ret_cell_tmp rfl row_hd HV_.out rfl HHC.out.len rfl rfl ?_
     exact ⟨by rw [HYE.out.1, HYE.out.2]; rfl, HB_.out⟩
   ·have d0 : decide ((0 : Int) < (nl : Int)) = true := by simp; omega
    go_wp2_with (first | (with_reducible refine wpl_stop (o := ⟨some 75, _, _, _, _, _⟩) ?_))
    refine stop_go ?_
    refine wpl_build rfl rfl T0.out ?_
    go_wp2_with (first | (with_reducible refine wpl_storeb (o := ⟨none, .store _ _ _, _, _, _, _⟩) rfl rfl row_hd HV.out.blk rfl rfl HV.out.len HCZ.out.len HCZ.out.one ?_))
    intro w2_ hb2_ hg2_ hsz2_
    have HV_ := kp hb2_
    have HB_ := kp (put_below HB.out HV_g.out hg2_)
    clear hb2_ hg2_ hsz2_
    go_wp2_with fail
    refine ret_cell_tmp rfl row_hd HV_.out rfl HCZ.out.len rfl rfl ?_
    exact ⟨by rw [(HRN.out hi li HLL5.out (.inl (fun h => hn0 (HP1.out.2 h)))).1, (HRN.out hi li HLL5.out (.inl (fun h => hn0 (HP1.out.2 h)))).2]; rfl, HB_.out⟩
end Go.Proofs.YtphmefhnffoafaaGreatDoor

/- The contract of the document's Read of an entry. Printed by mkrd09.py. -/
import Derived.Test.YtphmefhnffoafaaGreatDoorCertTurnedU28
import Derived.Test.YtphmefhnffoafaaGreatDoorCertTurnedU24
import Derived.Test.YtphmefhnffoafaaGreatDoorCertTurnedU26
set_option linter.unusedSimpArgs false
namespace Go.Proofs.YtphmefhnffoafaaGreatDoor
open Go.RowKit Go.Shelf
set_option linter.unusedVariables false
def lfE : Nat → List Nat → List UInt8 → List UInt8 → Rd (List Nat × List UInt8)
 | 0, vs, d, l => match numR 3 l with
  | .error x => .error x
  | .ok (v, t) => lfE 1 (vs ++ [v]) d t
 | 1, vs, d, l => match numR 63 l with
  | .error x => .error x
  | .ok (v, t) => lfE 2 (vs ++ [v]) d t
 | 2, vs, d, l => match takeR 32 l with
  | .error x => .error x
  | .ok (v, t) => lfE 3 (vs ++ [0]) v t
 | 3, vs, d, l => match numR 4611686018427387904 l with
  | .error x => .error x
  | .ok (v, t) => lfE 4 (vs ++ [v]) d t
 | 4, vs, d, l => match numR 63 l with
  | .error x => .error x
  | .ok (v, t) => lfE 5 (vs ++ [v]) d t
 | 5, vs, d, l => match numR 1099511627776 l with
  | .error x => .error x
  | .ok (v, t) => .ok ((vs ++ [v], d), t)
 | _, vs, d, l => .ok ((vs, d), l)
 termination_by i => 6 - i
def entOfV (vs : List Nat) (d : List UInt8) : Ent := ⟨((vs.getD 0 0 : Nat) : Int), ((vs.getD 1 0 : Nat) : Int), d, ((vs.getD 3 0 : Nat) : Int), ((vs.getD 4 0 : Nat) : Int), ((vs.getD 5 0 : Nat) : Int)⟩
theorem lfE_look (l : List UInt8) : lookE l = (match lfE 0 [] zeroD l with
  | .error x => .error x
  | .ok ((vs, d), t) => .ok (entOfV vs d, t)) := by
 unfold lookE
 rw [lfE]
 cases numR 3 l with
 | error x => rfl
 | ok p =>
  obtain ⟨v0, l0⟩ := p
  simp only
  rw [lfE]
  cases numR 63 l0 with
  | error x => rfl
  | ok p =>
   obtain ⟨v1, l1⟩ := p
   simp only
   rw [lfE]
   cases takeR 32 l1 with
   | error x => rfl
   | ok p =>
    obtain ⟨v2, l2⟩ := p
    simp only
    rw [lfE]
    cases numR 4611686018427387904 l2 with
    | error x => rfl
    | ok p =>
     obtain ⟨v3, l3⟩ := p
     simp only
     rw [lfE]
     cases numR 63 l3 with
     | error x => rfl
     | ok p =>
      obtain ⟨v4, l4⟩ := p
      simp only
      rw [lfE]
      cases numR 1099511627776 l4 with
      | error x => rfl
      | ok p =>
       obtain ⟨v5, l5⟩ := p
       simp only
       rfl
theorem info_u64s : (Tryz.prog.info? 25).map (fun i => (i.zero, i.size, i.bytes)) = some (some (.int .u64 0), 1, 8) := by kernel_rfl
theorem el_u64s : ElemT Tryz.prog 119 25 1 8 := elemT Tryz.underlying119 info_u64s rfl (by omega)
theorem own_ne {w : World} {base n c sz q : Nat} {e T : TypeId} {A : Option Addr} {xs cs : List Value} (h : w.ownsRow base e sz (.slice A n c) n xs) (hb : Blk w q T cs) (hT : T ≠ e) : ∀ k, A.map Addr.block = some k → k ≠ q := by
 intro k hk e2
 subst e2
 rcases h.2 with ⟨hv, _⟩ | ⟨b, cap, cur, hv, _, hh, _⟩
 ·injection hv with hA; subst hA; cases hk
 ·injection hv with hA; subst hA
  have e3 : b = k := Option.some.inj hk
  subst e3
  unfold Blk at hb
  rw [hb] at hh
  injection hh with hh
  injection hh with _ hh
  exact hT hh
def numsV (vs : List Nat) : List Value := vs.map (fun (v : Nat) => Value.int .u64 (v : Int))
def OwnN (w : World) (base : Nat) (A : Option Addr) (n c : Nat) (vs : List Nat) : Prop := w.ownsRow base 25 1 (.slice A n c) n (numsV vs)
theorem OwnN.grow {w w' : World} {base n c : Nat} {A : Option Addr} {vs : List Nat} (h : OwnN w base A n c vs) (k : Grow w w') : OwnN w' base A n c vs := own_below h k
theorem OwnN.kept {w w' : World} {base n c q : Nat} {A : Option Addr} {vs : List Nat} {T : TypeId} {cs : List Value} (h : OwnN w base A n c vs) (hb : Blk w q T cs) (hT : T ≠ 25) (hg : w.grownBy w' (some q)) : OwnN w' base A n c vs := own_kept h hg (fun g hg e => own_ne h hb hT g (by rw [hg]; rfl) (Option.some.inj e))
theorem bt_ent6 {k s y p a : Int} {d : List UInt8} (hd : d.length = 32) : Tryz.prog.built 27 [(0, .int .i64 k), (1, .int .i64 s), (2, .agg (d.map B).toArray), (3, .int .u64 a), (4, .int .i64 y), (5, .int .i64 p)] = some (entV ⟨k, s, d, a, y, p⟩).toArray := by
 have hz : zeroD.length = 32 := by simp [zeroD]
 have e0 : (d.map B).length = 32 := by rw [List.length_map, hd]
 rw [built_ent1, fill_cons (off := 0) (s := 1) (cs := [.int .i64 k]) rfl rfl rfl (by simp [entV, noEnt]), fill_cons (off := 1) (s := 1) (cs := [.int .i64 s]) rfl rfl rfl (by simp [entV, noEnt, splice])]
 have e1 : splice (splice (entV noEnt) 0 [.int .i64 k]) 1 [.int .i64 s] = [.int .i64 k, .int .i64 s] ++ (zeroD.map B ++ [.int .u64 0, .int .i64 0, .int .i64 0]) := rfl
 rw [e1, fill_cons (off := 2) (s := 32) (cs := d.map B) rfl rfl e0 (by simp [hz]), splice_mid (off := 2) rfl (by simp [hd, hz])]
 have hl : ([Value.int .i64 k, .int .i64 s] ++ d.map B).length = 34 := by simp [hd]
 have e2 : [Value.int .i64 k, .int .i64 s] ++ (d.map B ++ [.int .u64 0, .int .i64 0, .int .i64 0]) = ([Value.int .i64 k, .int .i64 s] ++ d.map B) ++ ([.int .u64 0] ++ [.int .i64 0, .int .i64 0]) := by simp
 rw [e2, fill_cons (off := 34) (s := 1) (cs := [.int .u64 a]) rfl rfl rfl (by simp [hd]), splice_mid (off := 34) hl (by rfl)]
 have e3 : ([Value.int .i64 k, .int .i64 s] ++ d.map B) ++ ([.int .u64 a] ++ [.int .i64 0, .int .i64 0]) = (([Value.int .i64 k, .int .i64 s] ++ d.map B) ++ [.int .u64 a]) ++ ([.int .i64 0] ++ [.int .i64 0]) := by simp
 rw [e3, fill_cons (off := 35) (s := 1) (cs := [.int .i64 y]) rfl rfl rfl (by simp [hd]), splice_mid (off := 35) (by simp [hd]) (by rfl)]
 have e4 : (([Value.int .i64 k, .int .i64 s] ++ d.map B) ++ [.int .u64 a]) ++ ([.int .i64 y] ++ [.int .i64 0]) = ((([Value.int .i64 k, .int .i64 s] ++ d.map B) ++ [.int .u64 a]) ++ [.int .i64 y]) ++ ([.int .i64 0] ++ []) := by simp
 rw [e4, fill_cons (off := 36) (s := 1) (cs := [.int .i64 p]) rfl rfl rfl (by simp [hd]), splice_mid (off := 36) (by simp [hd]) (by rfl), fill_nil]
 simp [entV]
theorem readE_e {l : List UInt8} {x : Nat} (h : lookE l = .error x) : errOf (readE l) = x ∧ entOf (readE l) = noEnt := by
 unfold readE; rw [h]; exact ⟨rfl, rfl⟩
theorem readE_no {l t : List UInt8} {h : Ent} (e : lookE l = .ok (h, t)) (hb : t ≠ [] ∨ h.kind = 0) : errOf (readE l) = 3 ∧ entOf (readE l) = noEnt := by
 unfold readE; rw [e]; simp only
 rw [if_neg (by rintro ⟨a, b⟩; rcases hb with c | c; exact c a; exact b c)]
 exact ⟨rfl, rfl⟩
theorem readE_yes {l : List UInt8} {h : Ent} (e : lookE l = .ok (h, [])) (hb : h.kind ≠ 0) : errOf (readE l) = 0 ∧ entOf (readE l) = h := by
 unfold readE; rw [e]; simp only
 rw [if_pos (by simpa using hb)]
 exact ⟨rfl, rfl⟩
set_option maxRecDepth 100000 in
set_option maxHeartbeats 16000000 in
theorem reread_any {A : Option Addr} {n c : Nat} {l : List UInt8} (w : World) (hs : Sl w w.heap.size 1 A n (l.map B)) (hc : n ≤ c) (hn : n ≤ 1000000) :
  Calls Tryz.prog 31 #[.slice A n c] w fun e w' => e = .returned (.tuple #[.agg (entV (entOf (readE l))).toArray, .int .i64 (errOf (readE l) : Int)]) ∧ Below w.heap.size w w' := by
 obtain rfl : n = l.length := by have := hs.len; simpa using this.symm
 have HS := kp hs
 have HC0 := kp hc; have HN0 := kp hn
 have HCZ := kp (ent_cl noEnt_ok)
 have T0 := kp built_entE
 have HRE := kp (fun x => readE_e (l := l) (x := x))
 have HRN := kp (fun h t => readE_no (l := l) (h := h) (t := t))
 have HRY := kp (fun h => readE_yes (l := l) (h := h))
 have HLK := kp (lfE_look l)
 obtain ⟨rs, hrs⟩ : ∃ q, q = lfE 0 [] zeroD l := ⟨_, rfl⟩
 have HLF := kp hrs.symm
 rw [← hrs] at HLK
 obtain ⟨rx, hrx⟩ : ∃ q, q = entOf (readE l) := ⟨_, rfl⟩
 obtain ⟨re, hre⟩ : ∃ q, q = errOf (readE l) := ⟨_, rfl⟩
 rw [← hrx, ← hre] at HRE HRN HRY ⊢
 have HF2 := kp (show Cl 35 (fieldV 2 0 nilS zeroD) from fieldV_cl rfl (by simp [zeroD]))
 have TK : Hid (∀ (Bd : Nat) (A : Option Addr) (n c : Nat) (l : List UInt8) (w : World), Sl w Bd 1 A n (l.map B) → Bd ≤ w.heap.size → n ≤ c → n ≤ 1000000 → Calls Tryz.prog 30 #[.slice A n c, .agg (fieldV 2 0 nilS zeroD).toArray] w fun e w' => GotR (takeR 32 l) idF Bd w w' e) := kp (fun Bd A n c l w hs hb hc hn => rtake_id w hs hb hc hn)
 obtain ⟨f2, hf2⟩ : ∃ q, q = fieldV 2 0 nilS zeroD := ⟨_, rfl⟩
 have HS20 := kp (show (fieldV 0 0 nilS zeroD).set 0 (.int .i64 2) = f2 by rw [hf2]; rfl)
 rw [← hf2] at HF2 TK
 clear hf2
 have HFa := kp (show Cl 35 (fieldV 0 3 nilS zeroD) from fieldV_cl rfl (by simp [zeroD]))
 have TFa := kp (bt_fldn (n := 3))
 obtain ⟨fa, hfa⟩ : ∃ q, q = fieldV 0 3 nilS zeroD := ⟨_, rfl⟩
 have TNa : Hid (∀ (Bd : Nat) (A : Option Addr) (n c : Nat) (l : List UInt8) (w : World), Sl w Bd 1 A n (l.map B) → Bd ≤ w.heap.size → n ≤ c → n ≤ 1000000 → Calls Tryz.prog 30 #[.slice A n c, .agg fa.toArray] w fun e w' => GotR (numR 3 l) numF Bd w w' e) := kp (by rw [hfa]; exact fun Bd A n c l w hs hb hc hn => rtake_num (m := 3) w hs hb hc hn (by omega))
 rw [← hfa] at HFa TFa
 clear hfa
 have HFb := kp (show Cl 35 (fieldV 0 63 nilS zeroD) from fieldV_cl rfl (by simp [zeroD]))
 have TFb := kp (bt_fldn (n := 63))
 obtain ⟨fb, hfb⟩ : ∃ q, q = fieldV 0 63 nilS zeroD := ⟨_, rfl⟩
 have TNb : Hid (∀ (Bd : Nat) (A : Option Addr) (n c : Nat) (l : List UInt8) (w : World), Sl w Bd 1 A n (l.map B) → Bd ≤ w.heap.size → n ≤ c → n ≤ 1000000 → Calls Tryz.prog 30 #[.slice A n c, .agg fb.toArray] w fun e w' => GotR (numR 63 l) numF Bd w w' e) := kp (by rw [hfb]; exact fun Bd A n c l w hs hb hc hn => rtake_num (m := 63) w hs hb hc hn (by omega))
 rw [← hfb] at HFb TFb
 clear hfb
 have HFz := kp (show Cl 35 (fieldV 0 0 nilS zeroD) from fieldV_cl rfl (by simp [zeroD]))
 have TFz := kp (bt_fldn (n := 0))
 obtain ⟨fz, hfz⟩ : ∃ q, q = fieldV 0 0 nilS zeroD := ⟨_, rfl⟩
 have TNz : Hid (∀ (Bd : Nat) (A : Option Addr) (n c : Nat) (l : List UInt8) (w : World), Sl w Bd 1 A n (l.map B) → Bd ≤ w.heap.size → n ≤ c → n ≤ 1000000 → Calls Tryz.prog 30 #[.slice A n c, .agg fz.toArray] w fun e w' => GotR (numR 0 l) numF Bd w w' e) := kp (by rw [hfz]; exact fun Bd A n c l w hs hb hc hn => rtake_num (m := 0) w hs hb hc hn (by omega))
 rw [← hfz] at HFz TFz HS20
 clear hfz
 have HFc := kp (show Cl 35 (fieldV 0 4611686018427387904 nilS zeroD) from fieldV_cl rfl (by simp [zeroD]))
 have TFc := kp (bt_fldn (n := 4611686018427387904))
 obtain ⟨fc, hfc⟩ : ∃ q, q = fieldV 0 4611686018427387904 nilS zeroD := ⟨_, rfl⟩
 have TNc : Hid (∀ (Bd : Nat) (A : Option Addr) (n c : Nat) (l : List UInt8) (w : World), Sl w Bd 1 A n (l.map B) → Bd ≤ w.heap.size → n ≤ c → n ≤ 1000000 → Calls Tryz.prog 30 #[.slice A n c, .agg fc.toArray] w fun e w' => GotR (numR 4611686018427387904 l) numF Bd w w' e) := kp (by rw [hfc]; exact fun Bd A n c l w hs hb hc hn => rtake_num (m := 4611686018427387904) w hs hb hc hn (by omega))
 rw [← hfc] at HFc TFc
 clear hfc
 have HFd := kp (show Cl 35 (fieldV 0 1099511627776 nilS zeroD) from fieldV_cl rfl (by simp [zeroD]))
 have TFd := kp (bt_fldn (n := 1099511627776))
 obtain ⟨fd, hfd⟩ : ∃ q, q = fieldV 0 1099511627776 nilS zeroD := ⟨_, rfl⟩
 have TNd : Hid (∀ (Bd : Nat) (A : Option Addr) (n c : Nat) (l : List UInt8) (w : World), Sl w Bd 1 A n (l.map B) → Bd ≤ w.heap.size → n ≤ c → n ≤ 1000000 → Calls Tryz.prog 30 #[.slice A n c, .agg fd.toArray] w fun e w' => GotR (numR 1099511627776 l) numF Bd w w' e) := kp (by rw [hfd]; exact fun Bd A n c l w hs hb hc hn => rtake_num (m := 1099511627776) w hs hb hc hn (by omega))
 rw [← hfd] at HFd TFd
 clear hfd
 obtain ⟨w_, hw⟩ : ∃ x, x = w := ⟨_, rfl⟩
 have HB := kp (show Below w.heap.size w w_ by rw [hw]; exact Below.refl _ _)
 suffices H : Calls Tryz.prog 31 #[.slice A l.length c] w_ fun e w' => e = .returned (.tuple #[.agg (entV rx).toArray, .int .i64 (re : Int)]) ∧ Below w.heap.size w w' by rw [hw] at H; exact H
 clear hw hs hrx hre hc hn hrs
 go_enter Tryz.func31, Tryz.ntmps31
 go_wp2_with (first | (with_reducible refine wpl_alloc (o := ⟨some 2, _, _, _, _, _⟩) rfl rfl zero_entry ?_))
 intro w2_ hb2_ hb_ hsz2_
 have HX_ := kp (at_mk hb2_ len_entry)
 clear hb2_ hsz2_
 have HG_ := kp HB.out.size
 replace HB := kp (HB.out.grow' hb_)
 generalize hg_ : w_.heap.size = g2 at HX_ HG_ ⊢
 clear hg_
 have HV_g := HG_
 clear HG_
 have HV := HX_
 clear hb_ HX_
 try clear w_
 rename World => w_
 go_wp2_with (first | (with_reducible refine wpl_stop (o := ⟨some 6, _, _, _, _, _⟩) ?_))
 refine stop_go ?_
 generalize hw_ : World.alloc w_ _ = w2_
 obtain ⟨hX_, hb_, hs_⟩ := alloc_eq hw_
 obtain ⟨gm, hgm⟩ : ∃ q, q = w_.heap.size := ⟨_, rfl⟩
 rw [← hgm] at hX_ ⊢
 have HM_HV := kp (show g2 ≠ gm by have h1 := HV.out.lt; omega)
 have HM := kp (show At w2_ gm 25 6 [.int .u64 3, .int .u64 63, .int .u64 0, .int .u64 4611686018427387904, .int .u64 63, .int .u64 1099511627776] from at_mk hX_ rfl)
 replace HV := kp (HV.out.grow hb_)
 replace HB := kp (HB.out.grow' hb_)
 clear hw_ hX_ hs_ hgm hb_
 try clear w_
 rename World => w_
 have HMLT := kp HM.out.lt
 have HVLT := kp HV.out.lt
 go_wp2_with (first | (with_reducible refine wpl_alloc (o := ⟨some 6, _, _, _, _, _⟩) rfl rfl zero_id ?_))
 intro w2_ hb2_ hb_ hsz2_
 have HD := kp (show At w2_ w_.heap.size 24 32 (zeroD.map B) from at_mk hb2_ (by simp [zeroD]))
 have HDG := kp HB.out.size
 generalize hg_ : w_.heap.size = gd at HD HDG HMLT HVLT ⊢
 clear hb2_ hsz2_ hg_
 have hb_ := hb_
 clear hb_
 replace HB := kp (HB.out.grow' hb_)
 replace HV := kp (HV.out.grow hb_)
 replace HM := kp (HM.out.grow hb_)
 clear hb_
 try clear w_
 rename World => w_
 have HD_HV := kp (Nat.ne_of_lt HVLT.out); have HD_HM := kp (Nat.ne_of_lt HMLT.out)
 go_wp2_with fail
 go_loopw [0, 5, 7] (fun bv vv iv wr => ∃ i : Nat, ∃ A' c' li Av cv, ∃ vs : List Nat, ∃ dd : List UInt8, i ≤ 6 ∧ iv = .int .i64 i ∧ bv = .slice A' li.length c' ∧ vv = .slice Av i cv ∧ Hid (lfE i vs dd li = rs ∧ vs.length = i ∧ (∀ v ∈ vs, v ≤ 4611686018427387904) ∧ dd.length = 32 ∧ li.length ≤ l.length ∧ li.length ≤ c' ∧ Sl w w.heap.size 1 A' li.length (li.map B) ∧ At wr g2 27 37 (entV noEnt) ∧ At wr gd 24 32 (dd.map B) ∧ At wr gm 25 6 [.int .u64 3, .int .u64 63, .int .u64 0, .int .u64 4611686018427387904, .int .u64 63, .int .u64 1099511627776] ∧ OwnN wr (gd + 1) Av i cv vs ∧ Below w.heap.size w wr)) (fun _ _ iv _ => 6 - (intOf iv).toNat)
 case atStart => exact ⟨0, A, c, l, none, 0, [], zeroD, by omega, rfl, rfl, rfl, kp ⟨HLF.out, rfl, by simp, by simp [zeroD], Nat.le_refl _, HC0.out, HS.out, HV.out, HD.out, HM.out, World.ownsRow_nil _ _ _ _, HB.out⟩⟩
 case round =>
  obtain ⟨i, A', c', li, Av, cv, vs, dd, hi6, rfl, rfl, rfl, hI⟩ := hrel
  clear HV HD HM HB
  have HLI := kp hI.out.1; have HVL := kp hI.out.2.1; have HVB := kp hI.out.2.2.1; have HDL := kp hI.out.2.2.2.1; have HLL := kp hI.out.2.2.2.2.1; have HLC := kp hI.out.2.2.2.2.2.1; have HSL := kp hI.out.2.2.2.2.2.2.1; have HV := kp hI.out.2.2.2.2.2.2.2.1; have HD := kp hI.out.2.2.2.2.2.2.2.2.1; have HM := kp hI.out.2.2.2.2.2.2.2.2.2.1; have HO := kp hI.out.2.2.2.2.2.2.2.2.2.2.1; have HB := kp hI.out.2.2.2.2.2.2.2.2.2.2.2
  clear hI
  rename World => w_
  obtain ⟨nl, hnl⟩ : ∃ q, q = li.length := ⟨_, rfl⟩
  rw [← hnl] at HSL ⊢
  have HNL := kp hnl
  clear hnl
  rcases (show i = 0 ∨ i = 1 ∨ i = 2 ∨ i = 3 ∨ i = 4 ∨ i = 5 ∨ i = 6 by omega) with rfl | rfl | rfl | rfl | rfl | rfl | rfl
  ·skip
   have HLK2 := HLI.out
   rw [lfE] at HLK2
   have HLK_ := kp HLK2
   clear HLK2 HLI
   have cm := HM.out.blk.at_ (i := 0) rfl
   go_wp2_with (first | (with_reducible refine wpl_stop (o := ⟨some 19, _, _, _, _, _⟩) ?_))
   refine stop_go ?_
   refine wpl_build rfl rfl TFa.out ?_
   go_wp2_with (first | (with_reducible refine wpl_alloc (o := ⟨some 8, _, _, _, _, _⟩) rfl rfl zero_fld ?_))
   intro w2_ hb2_ hb_ hsz2_
   have HX_ := kp (at_mk hb2_ len_fld)
   clear hb2_ hsz2_
   have HG_ := kp HB.out.size
   have HF_HV := kp (Nat.ne_of_lt HV.out.lt)
   have HF_HD := kp (Nat.ne_of_lt HD.out.lt)
   have HF_HM := kp (Nat.ne_of_lt HM.out.lt)
   replace HB := kp (HB.out.grow' hb_)
   replace HV := kp (HV.out.grow hb_)
   replace HD := kp (HD.out.grow hb_)
   replace HM := kp (HM.out.grow hb_)
   replace HO := kp (HO.out.grow hb_)
   generalize hg_ : w_.heap.size = g8 at HX_ HG_ HF_HV HF_HD HF_HM ⊢
   clear hg_
   have HF_g := HG_
   clear HG_
   have HF := HX_
   clear hb_ HX_
   try clear w_
   rename World => w_
   go_wp2_with (first | (with_reducible refine wpl_storeb (o := ⟨none, .store _ _ _, _, _, _, _⟩) rfl rfl row_fld HF.out.blk rfl rfl HF.out.len HFa.out.len HFa.out.one ?_))
   intro w2_ hb2_ hg2_ hsz2_
   replace HB := kp (put_below HB.out HF_g.out hg2_)
   replace HV := kp (At.off HV.out hg2_ HF_HV.out)
   replace HD := kp (At.off HD.out hg2_ HF_HD.out)
   replace HM := kp (At.off HM.out hg2_ HF_HM.out)
   replace HO := kp (HO.out.kept HF.out.blk (by decide) hg2_)
   replace HF := kp (at_mk hb2_ HFa.out.len)
   clear hb2_ hg2_ hsz2_
   try clear w_
   rename World => w_
   clear cm
   go_wp2_with (first | (with_reducible refine wpl_loadb (o := ⟨some 24, _, _, _, _, _⟩) rfl rfl row_fld HF.out.blk rfl HF.out.len ?_))
   refine (TNa.out _ _ _ _ _ _ (HSL.out.below HB.out) HB.out.size (by rw [HNL.out]; exact HLC.out) (by rw [HNL.out]; exact Nat.le_trans HLL.out HN0.out)).mono ?_
   rintro e w2_ hr_
   obtain ⟨hb_, ⟨x, hx, rfl⟩ | ⟨v, t, f, A2, c2, hx, rfl, hcl, hfv, hs2, hc2⟩⟩ := hr_.get
   ·skip
    have HX := kp (show lookE l = .error x by have h := HLK_.out; rw [hx] at h; rw [HLK.out, ← h])
    have HXN := kp (show x ≠ 0 from numR_err hx)
    clear hr_ hx HF HM HO HD
    replace HV := kp (HV.out.grow hb_)
    replace HB := kp (HB.out.grow' hb_)
    clear hb_
    try clear w_
    rename World => w_
    have HGZ := kp (show Cl 37 (gotV noF (x : Int) nilS) from gotV_cl noF_cl rfl)
    have HG35 := kp (show (gotV noF (x : Int) nilS)[35]? = some (.int .i64 (x : Int)) from (gotV_at noF_cl).1)
    obtain ⟨gz, hgz⟩ : ∃ q, q = gotV noF (x : Int) nilS := ⟨_, rfl⟩
    rw [← hgz] at HGZ HG35 ⊢
    clear hgz
    go_wp2_with (first | (with_reducible refine wpl_alloc (o := ⟨some 9, _, _, _, _, _⟩) rfl rfl zero_got ?_))
    intro w2_ hb2_ hb_ hsz2_
    have HX_ := kp (at_mk hb2_ len_got)
    clear hb2_ hsz2_
    have HG_ := kp HB.out.size
    have HG_HV := kp (Nat.ne_of_lt HV.out.lt)
    replace HB := kp (HB.out.grow' hb_)
    replace HV := kp (HV.out.grow hb_)
    generalize hg_ : w_.heap.size = g9 at HX_ HG_ HG_HV ⊢
    clear hg_
    have HG_g := HG_
    clear HG_
    have HG := HX_
    clear hb_ HX_
    try clear w_
    rename World => w_
    go_wp2_with (first | (with_reducible refine wpl_storeb (o := ⟨none, .store _ _ _, _, _, _, _⟩) rfl rfl row_got HG.out.blk rfl rfl HG.out.len HGZ.out.len HGZ.out.one ?_))
    intro w2_ hb2_ hg2_ hsz2_
    replace HB := kp (put_below HB.out HG_g.out hg2_)
    replace HG := kp (at_mk hb2_ HGZ.out.len)
    replace HV := kp (At.off HV.out hg2_ HG_HV.out)
    clear hb2_ hg2_ hsz2_
    try clear w_
    rename World => w_
    have c35 := HG.out.blk.at_ HG35.out
    have d0 : ((x : Int) != 0) = true := by simp; exact HXN.out
    try go_wp2_with fail
    repeat' (first | (with_reducible refine wp_plan (id := 12) (fun a b => a.grownBy b (some g2)) [0,0,1,4,0] (.get 0 (.get 1 (.get 2 (.act 3 (.get 4 .done))))) (by kernel_rfl) (by kernel_rfl) (fun a => grownBy_refl a _) (fun _ _ _ h k => grownBy_trans h k) ?_) | go_values | go_skip | go_guarded | go_step | go_upon | go_back)
    intro w_ hd_
    have hb_ := hd_.grow
    replace HB := kp (HB.out.grow' hb_)
    replace HV := kp (HV.out.grow hb_)
    replace HG := kp (HG.out.grow hb_)
    clear hb_ hd_
    refine pl_calm rfl rfl (by exact wanted_none rfl) (fun w_ => by exact exec_build rfl T0.out w_) (fun K hK => ?_)
    go_simp
    refine hK _ _ ?_
    clear hK K
    repeat ((first | refine pl_calm rfl rfl (by first | exact wanted_none rfl | (go_simp; done) | rfl) (fun w_ => by first | (go_simp; rfl) | (go_simp; done) | rfl) (fun K hK => ?_) | refine pl_skip rfl (by first | (go_simp; done) | rfl) (fun K hK => ?_) | refine pl_skipa rfl (by first | (go_simp; done) | rfl) (fun K hK => ?_)); go_simp; refine hK _ _ ?_; clear hK K)
    refine pl_read rfl rfl (by exact wanted_none rfl) (v := .int .i64 (x : Int)) (fun w3_ hf_ => by have c9 := (HG.out.blk.grown hf_ (fun e => HG_HV.out (Option.some.inj e).symm)).at_ HG35.out; first | (go_simp; rfl) | (go_simp; done)) (fun K hK => ?_)
    go_simp
    refine hK _ _ ?_
    clear hK K
    refine pl_act rfl (by exact wanted_none rfl) (fun K hK => ?_)
    show wpList _ _ _ [⟨none, .store _ _ _, _, _, _, _⟩] _ _
    go_wp2_with (first | (with_reducible refine wpl_storeb (o := ⟨none, .store _ _ _, _, _, _, _⟩) rfl rfl row_entry HV.out.blk rfl rfl HV.out.len HCZ.out.len HCZ.out.one ?_))
    intro w2_ hb2_ hg2_ hsz2_
    go_wp2_with fail
    refine hK _ _ (fun _ => hg2_) ?_
    clear hK K
    replace HB := kp (put_below HB.out HV_g.out hg2_)
    replace HV := kp (at_mk hb2_ HCZ.out.len)
    clear hb2_ hg2_ hsz2_
    repeat ((first | refine pl_calm rfl rfl (by first | exact wanted_none rfl | (go_simp; done) | rfl) (fun w_ => by first | (go_simp; rfl) | (go_simp; done) | rfl) (fun K hK => ?_) | refine pl_skip rfl (by first | (go_simp; done) | rfl) (fun K hK => ?_) | refine pl_skipa rfl (by first | (go_simp; done) | rfl) (fun K hK => ?_)); go_simp; refine hK _ _ ?_; clear hK K)
    refine pl_done ?_
    go_wp2_with fail
    refine ret_cell_tmp rfl row_entry HV.out.blk rfl HV.out.len rfl rfl ?_
    exact ⟨by rw [(HRE.out x HX.out).1, (HRE.out x HX.out).2]; rfl, HB.out⟩
   ·skip
    have HLN := kp (show lfE 1 (vs ++ [v]) dd t = rs by have h := HLK_.out; rw [hx] at h; exact h)
    have HTL := kp (show t.length ≤ l.length from Nat.le_trans (numR_le hx).2.2 HLL.out)
    have HVM := kp (numR_le hx).1
    have HGC := kp (show Cl 37 (gotV f 0 (.slice A2 t.length c2)) from gotV_cl hcl rfl)
    have HG35 := kp (show (gotV f 0 (.slice A2 t.length c2))[35]? = some (.int .i64 0) from (gotV_at hcl).1)
    have HG36 := kp (show (gotV f 0 (.slice A2 t.length c2))[36]? = some (.slice A2 t.length c2) from (gotV_at hcl).2.1)
    have HG1 := kp (show (gotV f 0 (.slice A2 t.length c2))[1]? = some (.int .u64 ((v : Nat) : Int)) from (gotV_at hcl).2.2 _ _ (by rw [show f = _ from hfv]; rfl))
    have HS2 := kp (show Sl w w.heap.size 1 A2 t.length (t.map B) from hs2.back (HB.out.grow' hb_))
    have HC2 := kp hc2
    obtain ⟨tl, htl⟩ : ∃ q, q = t.length := ⟨_, rfl⟩
    obtain ⟨gv, hgv⟩ : ∃ q, q = gotV f 0 (.slice A2 t.length c2) := ⟨_, rfl⟩
    rw [← hgv] at HGC HG35 HG36 HG1 ⊢
    rw [← htl] at HG36
    have HTE := kp htl
    clear hr_ hx hcl hfv hs2 hc2 hgv htl HF HSL HLK_ HLC
    replace HV := kp (HV.out.grow hb_)
    replace HD := kp (HD.out.grow hb_)
    replace HM := kp (HM.out.grow hb_)
    replace HO := kp (HO.out.grow hb_)
    replace HB := kp (HB.out.grow' hb_)
    clear hb_
    try clear w_
    rename World => w_
    go_wp2_with (first | (with_reducible refine wpl_alloc (o := ⟨some 9, _, _, _, _, _⟩) rfl rfl zero_got ?_))
    intro w2_ hb2_ hb_ hsz2_
    have HX_ := kp (at_mk hb2_ len_got)
    clear hb2_ hsz2_
    have HG_ := kp HB.out.size
    have HG_HV := kp (Nat.ne_of_lt HV.out.lt)
    have HG_HD := kp (Nat.ne_of_lt HD.out.lt)
    have HG_HM := kp (Nat.ne_of_lt HM.out.lt)
    replace HB := kp (HB.out.grow' hb_)
    replace HV := kp (HV.out.grow hb_)
    replace HD := kp (HD.out.grow hb_)
    replace HM := kp (HM.out.grow hb_)
    replace HO := kp (HO.out.grow hb_)
    generalize hg_ : w_.heap.size = g9 at HX_ HG_ HG_HV HG_HD HG_HM ⊢
    clear hg_
    have HG_g := HG_
    clear HG_
    have HG := HX_
    clear hb_ HX_
    try clear w_
    rename World => w_
    go_wp2_with (first | (with_reducible refine wpl_storeb (o := ⟨none, .store _ _ _, _, _, _, _⟩) rfl rfl row_got HG.out.blk rfl rfl HG.out.len HGC.out.len HGC.out.one ?_))
    intro w2_ hb2_ hg2_ hsz2_
    replace HB := kp (put_below HB.out HG_g.out hg2_)
    replace HV := kp (At.off HV.out hg2_ HG_HV.out)
    replace HD := kp (At.off HD.out hg2_ HG_HD.out)
    replace HM := kp (At.off HM.out hg2_ HG_HM.out)
    replace HO := kp (HO.out.kept HG.out.blk (by decide) hg2_)
    replace HG := kp (at_mk hb2_ HGC.out.len)
    clear hb2_ hg2_ hsz2_
    try clear w_
    rename World => w_
    have c35 := HG.out.blk.at_ HG35.out
    have c36 := HG.out.blk.at_ HG36.out
    have c1 := HG.out.blk.at_ HG1.out
    have HOR := kp (show w_.ownsRow (gd + 1) 25 1 (.slice Av 0 cv) 0 (numsV vs) from HO.out)
    have HDZ := kp (show gd + 1 ≤ w_.heap.size by have := HD.out.lt; omega)
    go_wp2_with (first | (at_builtin; refine wpl_app1 rfl rfl el_u64s HOR.out rfl (m := 1) rfl ?_ ?_ ?_ ?_ ?_ ?_))
    ·rfl
    ·rfl
    ·omega
    ·omega
    ·exact HDZ.out
    intro A4 c4 w4_ ho_ hg_ hA_
    have hne_ := own_from HOR.out
    replace HV := kp (show At w4_ g2 27 37 (entV noEnt) from at_mk (HV.out.blk.grown hg_ (fun e => own_ne HOR.out HV.out.blk (by decide) _ e.symm rfl)) HV.out.len)
    replace HD := kp (show At w4_ gd 24 32 (dd.map B) from at_mk (HD.out.blk.grown hg_ (fun e => own_ne HOR.out HD.out.blk (by decide) _ e.symm rfl)) HD.out.len)
    replace HM := kp (show At w4_ gm 25 6 _ from at_mk (HM.out.blk.grown hg_ (fun e => by have h1 := hne_ _ e.symm; have := HMLT.out; omega)) HM.out.len)
    replace HG := kp (show At w4_ g9 75 37 gv from at_mk (HG.out.blk.grown hg_ (fun e => own_ne HOR.out HG.out.blk (by decide) _ e.symm rfl)) HG.out.len)
    replace HO := kp (show OwnN w4_ (gd + 1) A4 1 c4 (vs ++ [v]) by unfold OwnN numsV; rw [List.map_append]; exact ho_)
    replace HB := kp (below_grown HB.out hg_ HB.out.size (fun q hq => by have h1 := hne_ q hq; have := HDG.out; omega))
    clear ho_ hg_ hA_ hne_ HOR HDZ c35 c36 c1
    try clear w_
    rename World => w_
    have HVN := kp (show (vs ++ [v]).length = 1 by rw [List.length_append, HVL.out]; rfl)
    have HVBN := kp (show ∀ u ∈ vs ++ [v], u ≤ 4611686018427387904 from fun u hu => by rcases List.mem_append.1 hu with hu | hu; exact HVB.out u hu; rw [List.mem_singleton.1 hu]; exact (by have h1 := HVM.out; omega))
    go_wp2_with fail
    go_roundw
    case rel => exact ⟨1, A2, c2, t, A4, c4, vs ++ [v], dd, by omega, rfl, by rw [HTE.out], rfl, kp ⟨HLN.out, HVN.out, HVBN.out, HDL.out, HTL.out, HC2.out, HS2.out, HV.out, HD.out, HM.out, HO.out, HB.out⟩⟩
    case measure => simp [intOf]
  ·skip
   have HLK2 := HLI.out
   rw [lfE] at HLK2
   have HLK_ := kp HLK2
   clear HLK2 HLI
   have cm := HM.out.blk.at_ (i := 1) rfl
   go_wp2_with (first | (with_reducible refine wpl_stop (o := ⟨some 19, _, _, _, _, _⟩) ?_))
   refine stop_go ?_
   refine wpl_build rfl rfl TFb.out ?_
   go_wp2_with (first | (with_reducible refine wpl_alloc (o := ⟨some 8, _, _, _, _, _⟩) rfl rfl zero_fld ?_))
   intro w2_ hb2_ hb_ hsz2_
   have HX_ := kp (at_mk hb2_ len_fld)
   clear hb2_ hsz2_
   have HG_ := kp HB.out.size
   have HF_HV := kp (Nat.ne_of_lt HV.out.lt)
   have HF_HD := kp (Nat.ne_of_lt HD.out.lt)
   have HF_HM := kp (Nat.ne_of_lt HM.out.lt)
   replace HB := kp (HB.out.grow' hb_)
   replace HV := kp (HV.out.grow hb_)
   replace HD := kp (HD.out.grow hb_)
   replace HM := kp (HM.out.grow hb_)
   replace HO := kp (HO.out.grow hb_)
   generalize hg_ : w_.heap.size = g8 at HX_ HG_ HF_HV HF_HD HF_HM ⊢
   clear hg_
   have HF_g := HG_
   clear HG_
   have HF := HX_
   clear hb_ HX_
   try clear w_
   rename World => w_
   go_wp2_with (first | (with_reducible refine wpl_storeb (o := ⟨none, .store _ _ _, _, _, _, _⟩) rfl rfl row_fld HF.out.blk rfl rfl HF.out.len HFb.out.len HFb.out.one ?_))
   intro w2_ hb2_ hg2_ hsz2_
   replace HB := kp (put_below HB.out HF_g.out hg2_)
   replace HV := kp (At.off HV.out hg2_ HF_HV.out)
   replace HD := kp (At.off HD.out hg2_ HF_HD.out)
   replace HM := kp (At.off HM.out hg2_ HF_HM.out)
   replace HO := kp (HO.out.kept HF.out.blk (by decide) hg2_)
   replace HF := kp (at_mk hb2_ HFb.out.len)
   clear hb2_ hg2_ hsz2_
   try clear w_
   rename World => w_
   clear cm
   go_wp2_with (first | (with_reducible refine wpl_loadb (o := ⟨some 24, _, _, _, _, _⟩) rfl rfl row_fld HF.out.blk rfl HF.out.len ?_))
   refine (TNb.out _ _ _ _ _ _ (HSL.out.below HB.out) HB.out.size (by rw [HNL.out]; exact HLC.out) (by rw [HNL.out]; exact Nat.le_trans HLL.out HN0.out)).mono ?_
   rintro e w2_ hr_
   obtain ⟨hb_, ⟨x, hx, rfl⟩ | ⟨v, t, f, A2, c2, hx, rfl, hcl, hfv, hs2, hc2⟩⟩ := hr_.get
   ·skip
    have HX := kp (show lookE l = .error x by have h := HLK_.out; rw [hx] at h; rw [HLK.out, ← h])
    have HXN := kp (show x ≠ 0 from numR_err hx)
    clear hr_ hx HF HM HO HD
    replace HV := kp (HV.out.grow hb_)
    replace HB := kp (HB.out.grow' hb_)
    clear hb_
    try clear w_
    rename World => w_
    have HGZ := kp (show Cl 37 (gotV noF (x : Int) nilS) from gotV_cl noF_cl rfl)
    have HG35 := kp (show (gotV noF (x : Int) nilS)[35]? = some (.int .i64 (x : Int)) from (gotV_at noF_cl).1)
    obtain ⟨gz, hgz⟩ : ∃ q, q = gotV noF (x : Int) nilS := ⟨_, rfl⟩
    rw [← hgz] at HGZ HG35 ⊢
    clear hgz
    go_wp2_with (first | (with_reducible refine wpl_alloc (o := ⟨some 9, _, _, _, _, _⟩) rfl rfl zero_got ?_))
    intro w2_ hb2_ hb_ hsz2_
    have HX_ := kp (at_mk hb2_ len_got)
    clear hb2_ hsz2_
    have HG_ := kp HB.out.size
    have HG_HV := kp (Nat.ne_of_lt HV.out.lt)
    replace HB := kp (HB.out.grow' hb_)
    replace HV := kp (HV.out.grow hb_)
    generalize hg_ : w_.heap.size = g9 at HX_ HG_ HG_HV ⊢
    clear hg_
    have HG_g := HG_
    clear HG_
    have HG := HX_
    clear hb_ HX_
    try clear w_
    rename World => w_
    go_wp2_with (first | (with_reducible refine wpl_storeb (o := ⟨none, .store _ _ _, _, _, _, _⟩) rfl rfl row_got HG.out.blk rfl rfl HG.out.len HGZ.out.len HGZ.out.one ?_))
    intro w2_ hb2_ hg2_ hsz2_
    replace HB := kp (put_below HB.out HG_g.out hg2_)
    replace HG := kp (at_mk hb2_ HGZ.out.len)
    replace HV := kp (At.off HV.out hg2_ HG_HV.out)
    clear hb2_ hg2_ hsz2_
    try clear w_
    rename World => w_
    have c35 := HG.out.blk.at_ HG35.out
    have d0 : ((x : Int) != 0) = true := by simp; exact HXN.out
    try go_wp2_with fail
    repeat' (first | (with_reducible refine wp_plan (id := 12) (fun a b => a.grownBy b (some g2)) [0,0,1,4,0] (.get 0 (.get 1 (.get 2 (.act 3 (.get 4 .done))))) (by kernel_rfl) (by kernel_rfl) (fun a => grownBy_refl a _) (fun _ _ _ h k => grownBy_trans h k) ?_) | go_values | go_skip | go_guarded | go_step | go_upon | go_back)
    intro w_ hd_
    have hb_ := hd_.grow
    replace HB := kp (HB.out.grow' hb_)
    replace HV := kp (HV.out.grow hb_)
    replace HG := kp (HG.out.grow hb_)
    clear hb_ hd_
    refine pl_calm rfl rfl (by exact wanted_none rfl) (fun w_ => by exact exec_build rfl T0.out w_) (fun K hK => ?_)
    go_simp
    refine hK _ _ ?_
    clear hK K
    repeat ((first | refine pl_calm rfl rfl (by first | exact wanted_none rfl | (go_simp; done) | rfl) (fun w_ => by first | (go_simp; rfl) | (go_simp; done) | rfl) (fun K hK => ?_) | refine pl_skip rfl (by first | (go_simp; done) | rfl) (fun K hK => ?_) | refine pl_skipa rfl (by first | (go_simp; done) | rfl) (fun K hK => ?_)); go_simp; refine hK _ _ ?_; clear hK K)
    refine pl_read rfl rfl (by exact wanted_none rfl) (v := .int .i64 (x : Int)) (fun w3_ hf_ => by have c9 := (HG.out.blk.grown hf_ (fun e => HG_HV.out (Option.some.inj e).symm)).at_ HG35.out; first | (go_simp; rfl) | (go_simp; done)) (fun K hK => ?_)
    go_simp
    refine hK _ _ ?_
    clear hK K
    refine pl_act rfl (by exact wanted_none rfl) (fun K hK => ?_)
    show wpList _ _ _ [⟨none, .store _ _ _, _, _, _, _⟩] _ _
    go_wp2_with (first | (with_reducible refine wpl_storeb (o := ⟨none, .store _ _ _, _, _, _, _⟩) rfl rfl row_entry HV.out.blk rfl rfl HV.out.len HCZ.out.len HCZ.out.one ?_))
    intro w2_ hb2_ hg2_ hsz2_
    go_wp2_with fail
    refine hK _ _ (fun _ => hg2_) ?_
    clear hK K
    replace HB := kp (put_below HB.out HV_g.out hg2_)
    replace HV := kp (at_mk hb2_ HCZ.out.len)
    clear hb2_ hg2_ hsz2_
    repeat ((first | refine pl_calm rfl rfl (by first | exact wanted_none rfl | (go_simp; done) | rfl) (fun w_ => by first | (go_simp; rfl) | (go_simp; done) | rfl) (fun K hK => ?_) | refine pl_skip rfl (by first | (go_simp; done) | rfl) (fun K hK => ?_) | refine pl_skipa rfl (by first | (go_simp; done) | rfl) (fun K hK => ?_)); go_simp; refine hK _ _ ?_; clear hK K)
    refine pl_done ?_
    go_wp2_with fail
    refine ret_cell_tmp rfl row_entry HV.out.blk rfl HV.out.len rfl rfl ?_
    exact ⟨by rw [(HRE.out x HX.out).1, (HRE.out x HX.out).2]; rfl, HB.out⟩
   ·skip
    have HLN := kp (show lfE 2 (vs ++ [v]) dd t = rs by have h := HLK_.out; rw [hx] at h; exact h)
    have HTL := kp (show t.length ≤ l.length from Nat.le_trans (numR_le hx).2.2 HLL.out)
    have HVM := kp (numR_le hx).1
    have HGC := kp (show Cl 37 (gotV f 0 (.slice A2 t.length c2)) from gotV_cl hcl rfl)
    have HG35 := kp (show (gotV f 0 (.slice A2 t.length c2))[35]? = some (.int .i64 0) from (gotV_at hcl).1)
    have HG36 := kp (show (gotV f 0 (.slice A2 t.length c2))[36]? = some (.slice A2 t.length c2) from (gotV_at hcl).2.1)
    have HG1 := kp (show (gotV f 0 (.slice A2 t.length c2))[1]? = some (.int .u64 ((v : Nat) : Int)) from (gotV_at hcl).2.2 _ _ (by rw [show f = _ from hfv]; rfl))
    have HS2 := kp (show Sl w w.heap.size 1 A2 t.length (t.map B) from hs2.back (HB.out.grow' hb_))
    have HC2 := kp hc2
    obtain ⟨tl, htl⟩ : ∃ q, q = t.length := ⟨_, rfl⟩
    obtain ⟨gv, hgv⟩ : ∃ q, q = gotV f 0 (.slice A2 t.length c2) := ⟨_, rfl⟩
    rw [← hgv] at HGC HG35 HG36 HG1 ⊢
    rw [← htl] at HG36
    have HTE := kp htl
    clear hr_ hx hcl hfv hs2 hc2 hgv htl HF HSL HLK_ HLC
    replace HV := kp (HV.out.grow hb_)
    replace HD := kp (HD.out.grow hb_)
    replace HM := kp (HM.out.grow hb_)
    replace HO := kp (HO.out.grow hb_)
    replace HB := kp (HB.out.grow' hb_)
    clear hb_
    try clear w_
    rename World => w_
    go_wp2_with (first | (with_reducible refine wpl_alloc (o := ⟨some 9, _, _, _, _, _⟩) rfl rfl zero_got ?_))
    intro w2_ hb2_ hb_ hsz2_
    have HX_ := kp (at_mk hb2_ len_got)
    clear hb2_ hsz2_
    have HG_ := kp HB.out.size
    have HG_HV := kp (Nat.ne_of_lt HV.out.lt)
    have HG_HD := kp (Nat.ne_of_lt HD.out.lt)
    have HG_HM := kp (Nat.ne_of_lt HM.out.lt)
    replace HB := kp (HB.out.grow' hb_)
    replace HV := kp (HV.out.grow hb_)
    replace HD := kp (HD.out.grow hb_)
    replace HM := kp (HM.out.grow hb_)
    replace HO := kp (HO.out.grow hb_)
    generalize hg_ : w_.heap.size = g9 at HX_ HG_ HG_HV HG_HD HG_HM ⊢
    clear hg_
    have HG_g := HG_
    clear HG_
    have HG := HX_
    clear hb_ HX_
    try clear w_
    rename World => w_
    go_wp2_with (first | (with_reducible refine wpl_storeb (o := ⟨none, .store _ _ _, _, _, _, _⟩) rfl rfl row_got HG.out.blk rfl rfl HG.out.len HGC.out.len HGC.out.one ?_))
    intro w2_ hb2_ hg2_ hsz2_
    replace HB := kp (put_below HB.out HG_g.out hg2_)
    replace HV := kp (At.off HV.out hg2_ HG_HV.out)
    replace HD := kp (At.off HD.out hg2_ HG_HD.out)
    replace HM := kp (At.off HM.out hg2_ HG_HM.out)
    replace HO := kp (HO.out.kept HG.out.blk (by decide) hg2_)
    replace HG := kp (at_mk hb2_ HGC.out.len)
    clear hb2_ hg2_ hsz2_
    try clear w_
    rename World => w_
    have c35 := HG.out.blk.at_ HG35.out
    have c36 := HG.out.blk.at_ HG36.out
    have c1 := HG.out.blk.at_ HG1.out
    have HOR := kp (show w_.ownsRow (gd + 1) 25 1 (.slice Av 1 cv) 1 (numsV vs) from HO.out)
    have HDZ := kp (show gd + 1 ≤ w_.heap.size by have := HD.out.lt; omega)
    go_wp2_with (first | (at_builtin; refine wpl_app1 rfl rfl el_u64s HOR.out rfl (m := 1) rfl ?_ ?_ ?_ ?_ ?_ ?_))
    ·rfl
    ·rfl
    ·omega
    ·omega
    ·exact HDZ.out
    intro A4 c4 w4_ ho_ hg_ hA_
    have hne_ := own_from HOR.out
    replace HV := kp (show At w4_ g2 27 37 (entV noEnt) from at_mk (HV.out.blk.grown hg_ (fun e => own_ne HOR.out HV.out.blk (by decide) _ e.symm rfl)) HV.out.len)
    replace HD := kp (show At w4_ gd 24 32 (dd.map B) from at_mk (HD.out.blk.grown hg_ (fun e => own_ne HOR.out HD.out.blk (by decide) _ e.symm rfl)) HD.out.len)
    replace HM := kp (show At w4_ gm 25 6 _ from at_mk (HM.out.blk.grown hg_ (fun e => by have h1 := hne_ _ e.symm; have := HMLT.out; omega)) HM.out.len)
    replace HG := kp (show At w4_ g9 75 37 gv from at_mk (HG.out.blk.grown hg_ (fun e => own_ne HOR.out HG.out.blk (by decide) _ e.symm rfl)) HG.out.len)
    replace HO := kp (show OwnN w4_ (gd + 1) A4 2 c4 (vs ++ [v]) by unfold OwnN numsV; rw [List.map_append]; exact ho_)
    replace HB := kp (below_grown HB.out hg_ HB.out.size (fun q hq => by have h1 := hne_ q hq; have := HDG.out; omega))
    clear ho_ hg_ hA_ hne_ HOR HDZ c35 c36 c1
    try clear w_
    rename World => w_
    have HVN := kp (show (vs ++ [v]).length = 2 by rw [List.length_append, HVL.out]; rfl)
    have HVBN := kp (show ∀ u ∈ vs ++ [v], u ≤ 4611686018427387904 from fun u hu => by rcases List.mem_append.1 hu with hu | hu; exact HVB.out u hu; rw [List.mem_singleton.1 hu]; exact (by have h1 := HVM.out; omega))
    go_wp2_with fail
    go_roundw
    case rel => exact ⟨2, A2, c2, t, A4, c4, vs ++ [v], dd, by omega, rfl, by rw [HTE.out], rfl, kp ⟨HLN.out, HVN.out, HVBN.out, HDL.out, HTL.out, HC2.out, HS2.out, HV.out, HD.out, HM.out, HO.out, HB.out⟩⟩
    case measure => simp [intOf]
  ·skip
   have HLK2 := HLI.out
   rw [lfE] at HLK2
   have HLK_ := kp HLK2
   clear HLK2 HLI
   have cm := HM.out.blk.at_ (i := 2) rfl
   go_wp2_with (first | (with_reducible refine wpl_stop (o := ⟨some 19, _, _, _, _, _⟩) ?_))
   refine stop_go ?_
   refine wpl_build rfl rfl TFz.out ?_
   go_wp2_with (first | (with_reducible refine wpl_alloc (o := ⟨some 8, _, _, _, _, _⟩) rfl rfl zero_fld ?_))
   intro w2_ hb2_ hb_ hsz2_
   have HX_ := kp (at_mk hb2_ len_fld)
   clear hb2_ hsz2_
   have HG_ := kp HB.out.size
   have HF_HV := kp (Nat.ne_of_lt HV.out.lt)
   have HF_HD := kp (Nat.ne_of_lt HD.out.lt)
   have HF_HM := kp (Nat.ne_of_lt HM.out.lt)
   replace HB := kp (HB.out.grow' hb_)
   replace HV := kp (HV.out.grow hb_)
   replace HD := kp (HD.out.grow hb_)
   replace HM := kp (HM.out.grow hb_)
   replace HO := kp (HO.out.grow hb_)
   generalize hg_ : w_.heap.size = g8 at HX_ HG_ HF_HV HF_HD HF_HM ⊢
   clear hg_
   have HF_g := HG_
   clear HG_
   have HF := HX_
   clear hb_ HX_
   try clear w_
   rename World => w_
   go_wp2_with (first | (with_reducible refine wpl_storeb (o := ⟨none, .store _ _ _, _, _, _, _⟩) rfl rfl row_fld HF.out.blk rfl rfl HF.out.len HFz.out.len HFz.out.one ?_))
   intro w2_ hb2_ hg2_ hsz2_
   replace HB := kp (put_below HB.out HF_g.out hg2_)
   replace HV := kp (At.off HV.out hg2_ HF_HV.out)
   replace HD := kp (At.off HD.out hg2_ HF_HD.out)
   replace HM := kp (At.off HM.out hg2_ HF_HM.out)
   replace HO := kp (HO.out.kept HF.out.blk (by decide) hg2_)
   replace HF := kp (at_mk hb2_ HFz.out.len)
   clear hb2_ hg2_ hsz2_
   try clear w_
   rename World => w_
   clear cm
   go_wp2_with (first | (refine wpl_store1 (o := ⟨none, .store _ _ _, _, _, _, _⟩) rfl rfl HF.out.blk rfl rfl (by kernel_rfl) rfl rfl (by have := HF.out.len; omega) ?_))
   intro w2_ hb2_ hg2_ hsz2_
   replace HB := kp (put_below HB.out HF_g.out hg2_)
   replace HV := kp (At.off HV.out hg2_ HF_HV.out)
   replace HD := kp (At.off HD.out hg2_ HF_HD.out)
   replace HM := kp (At.off HM.out hg2_ HF_HM.out)
   replace HO := kp (HO.out.kept HF.out.blk (by decide) hg2_)
   replace HF := kp (at_mk hb2_ ((List.length_set ..).trans HF.out.len))
   clear hb2_ hg2_ hsz2_
   try clear w_
   rename World => w_
   rw [HS20.out] at HF
   go_wp2_with (first | (with_reducible refine wpl_loadb (o := ⟨some 24, _, _, _, _, _⟩) rfl rfl row_fld HF.out.blk rfl HF.out.len ?_))
   refine (TK.out _ _ _ _ _ _ (HSL.out.below HB.out) HB.out.size (by rw [HNL.out]; exact HLC.out) (by rw [HNL.out]; exact Nat.le_trans HLL.out HN0.out)).mono ?_
   rintro e w2_ hr_
   obtain ⟨hb_, ⟨x, hx, rfl⟩ | ⟨v, t, f, A2, c2, hx, rfl, hcl, hfv, hs2, hc2⟩⟩ := hr_.get
   ·skip
    have HX := kp (show lookE l = .error x by have h := HLK_.out; rw [hx] at h; rw [HLK.out, ← h])
    have HXN := kp (show x ≠ 0 from takeR_err hx)
    clear hr_ hx HF HM HO HD
    replace HV := kp (HV.out.grow hb_)
    replace HB := kp (HB.out.grow' hb_)
    clear hb_
    try clear w_
    rename World => w_
    have HGZ := kp (show Cl 37 (gotV noF (x : Int) nilS) from gotV_cl noF_cl rfl)
    have HG35 := kp (show (gotV noF (x : Int) nilS)[35]? = some (.int .i64 (x : Int)) from (gotV_at noF_cl).1)
    obtain ⟨gz, hgz⟩ : ∃ q, q = gotV noF (x : Int) nilS := ⟨_, rfl⟩
    rw [← hgz] at HGZ HG35 ⊢
    clear hgz
    go_wp2_with (first | (with_reducible refine wpl_alloc (o := ⟨some 9, _, _, _, _, _⟩) rfl rfl zero_got ?_))
    intro w2_ hb2_ hb_ hsz2_
    have HX_ := kp (at_mk hb2_ len_got)
    clear hb2_ hsz2_
    have HG_ := kp HB.out.size
    have HG_HV := kp (Nat.ne_of_lt HV.out.lt)
    replace HB := kp (HB.out.grow' hb_)
    replace HV := kp (HV.out.grow hb_)
    generalize hg_ : w_.heap.size = g9 at HX_ HG_ HG_HV ⊢
    clear hg_
    have HG_g := HG_
    clear HG_
    have HG := HX_
    clear hb_ HX_
    try clear w_
    rename World => w_
    go_wp2_with (first | (with_reducible refine wpl_storeb (o := ⟨none, .store _ _ _, _, _, _, _⟩) rfl rfl row_got HG.out.blk rfl rfl HG.out.len HGZ.out.len HGZ.out.one ?_))
    intro w2_ hb2_ hg2_ hsz2_
    replace HB := kp (put_below HB.out HG_g.out hg2_)
    replace HG := kp (at_mk hb2_ HGZ.out.len)
    replace HV := kp (At.off HV.out hg2_ HG_HV.out)
    clear hb2_ hg2_ hsz2_
    try clear w_
    rename World => w_
    have c35 := HG.out.blk.at_ HG35.out
    have d0 : ((x : Int) != 0) = true := by simp; exact HXN.out
    try go_wp2_with fail
    repeat' (first | (with_reducible refine wp_plan (id := 12) (fun a b => a.grownBy b (some g2)) [0,0,1,4,0] (.get 0 (.get 1 (.get 2 (.act 3 (.get 4 .done))))) (by kernel_rfl) (by kernel_rfl) (fun a => grownBy_refl a _) (fun _ _ _ h k => grownBy_trans h k) ?_) | go_values | go_skip | go_guarded | go_step | go_upon | go_back)
    intro w_ hd_
    have hb_ := hd_.grow
    replace HB := kp (HB.out.grow' hb_)
    replace HV := kp (HV.out.grow hb_)
    replace HG := kp (HG.out.grow hb_)
    clear hb_ hd_
    refine pl_calm rfl rfl (by exact wanted_none rfl) (fun w_ => by exact exec_build rfl T0.out w_) (fun K hK => ?_)
    go_simp
    refine hK _ _ ?_
    clear hK K
    repeat ((first | refine pl_calm rfl rfl (by first | exact wanted_none rfl | (go_simp; done) | rfl) (fun w_ => by first | (go_simp; rfl) | (go_simp; done) | rfl) (fun K hK => ?_) | refine pl_skip rfl (by first | (go_simp; done) | rfl) (fun K hK => ?_) | refine pl_skipa rfl (by first | (go_simp; done) | rfl) (fun K hK => ?_)); go_simp; refine hK _ _ ?_; clear hK K)
    refine pl_read rfl rfl (by exact wanted_none rfl) (v := .int .i64 (x : Int)) (fun w3_ hf_ => by have c9 := (HG.out.blk.grown hf_ (fun e => HG_HV.out (Option.some.inj e).symm)).at_ HG35.out; first | (go_simp; rfl) | (go_simp; done)) (fun K hK => ?_)
    go_simp
    refine hK _ _ ?_
    clear hK K
    refine pl_act rfl (by exact wanted_none rfl) (fun K hK => ?_)
    show wpList _ _ _ [⟨none, .store _ _ _, _, _, _, _⟩] _ _
    go_wp2_with (first | (with_reducible refine wpl_storeb (o := ⟨none, .store _ _ _, _, _, _, _⟩) rfl rfl row_entry HV.out.blk rfl rfl HV.out.len HCZ.out.len HCZ.out.one ?_))
    intro w2_ hb2_ hg2_ hsz2_
    go_wp2_with fail
    refine hK _ _ (fun _ => hg2_) ?_
    clear hK K
    replace HB := kp (put_below HB.out HV_g.out hg2_)
    replace HV := kp (at_mk hb2_ HCZ.out.len)
    clear hb2_ hg2_ hsz2_
    repeat ((first | refine pl_calm rfl rfl (by first | exact wanted_none rfl | (go_simp; done) | rfl) (fun w_ => by first | (go_simp; rfl) | (go_simp; done) | rfl) (fun K hK => ?_) | refine pl_skip rfl (by first | (go_simp; done) | rfl) (fun K hK => ?_) | refine pl_skipa rfl (by first | (go_simp; done) | rfl) (fun K hK => ?_)); go_simp; refine hK _ _ ?_; clear hK K)
    refine pl_done ?_
    go_wp2_with fail
    refine ret_cell_tmp rfl row_entry HV.out.blk rfl HV.out.len rfl rfl ?_
    exact ⟨by rw [(HRE.out x HX.out).1, (HRE.out x HX.out).2]; rfl, HB.out⟩
   ·skip
    have HLN := kp (show lfE 3 (vs ++ [0]) v t = rs by have h := HLK_.out; rw [hx] at h; exact h)
    have HTL := kp (show t.length ≤ l.length from Nat.le_trans (takeR_le hx).2 HLL.out)
    have HDN := kp (dig_map (takeR_le hx).1)
    have HGC := kp (show Cl 37 (gotV f 0 (.slice A2 t.length c2)) from gotV_cl hcl rfl)
    have HG35 := kp (show (gotV f 0 (.slice A2 t.length c2))[35]? = some (.int .i64 0) from (gotV_at hcl).1)
    have HG36 := kp (show (gotV f 0 (.slice A2 t.length c2))[36]? = some (.slice A2 t.length c2) from (gotV_at hcl).2.1)
    have HG1 := kp (show (gotV f 0 (.slice A2 t.length c2))[1]? = some (.int .u64 ((0 : Nat) : Int)) from (gotV_at hcl).2.2 _ _ (by rw [show f = _ from hfv]; rfl))
    have HGD := kp (show ∀ (j : Nat) (u : Value), (v.map B)[j]? = some u → (gotV f 0 (.slice A2 t.length c2))[3 + j]? = some u from fun j u hu => (gotV_at hcl).2.2 _ _ (by rw [show f = _ from hfv]; unfold fieldV; rw [List.getElem?_append_right (by simp)]; simpa using hu))
    have HS2 := kp (show Sl w w.heap.size 1 A2 t.length (t.map B) from hs2.back (HB.out.grow' hb_))
    have HC2 := kp hc2
    obtain ⟨tl, htl⟩ : ∃ q, q = t.length := ⟨_, rfl⟩
    obtain ⟨gv, hgv⟩ : ∃ q, q = gotV f 0 (.slice A2 t.length c2) := ⟨_, rfl⟩
    rw [← hgv] at HGC HG35 HG36 HG1 HGD ⊢
    rw [← htl] at HG36
    have HTE := kp htl
    clear hr_ hx hcl hfv hs2 hc2 hgv htl HF HSL HLK_ HLC
    replace HV := kp (HV.out.grow hb_)
    replace HD := kp (HD.out.grow hb_)
    replace HM := kp (HM.out.grow hb_)
    replace HO := kp (HO.out.grow hb_)
    replace HB := kp (HB.out.grow' hb_)
    clear hb_
    try clear w_
    rename World => w_
    go_wp2_with (first | (with_reducible refine wpl_alloc (o := ⟨some 9, _, _, _, _, _⟩) rfl rfl zero_got ?_))
    intro w2_ hb2_ hb_ hsz2_
    have HX_ := kp (at_mk hb2_ len_got)
    clear hb2_ hsz2_
    have HG_ := kp HB.out.size
    have HG_HV := kp (Nat.ne_of_lt HV.out.lt)
    have HG_HD := kp (Nat.ne_of_lt HD.out.lt)
    have HG_HM := kp (Nat.ne_of_lt HM.out.lt)
    replace HB := kp (HB.out.grow' hb_)
    replace HV := kp (HV.out.grow hb_)
    replace HD := kp (HD.out.grow hb_)
    replace HM := kp (HM.out.grow hb_)
    replace HO := kp (HO.out.grow hb_)
    generalize hg_ : w_.heap.size = g9 at HX_ HG_ HG_HV HG_HD HG_HM ⊢
    clear hg_
    have HG_g := HG_
    clear HG_
    have HG := HX_
    clear hb_ HX_
    try clear w_
    rename World => w_
    go_wp2_with (first | (with_reducible refine wpl_storeb (o := ⟨none, .store _ _ _, _, _, _, _⟩) rfl rfl row_got HG.out.blk rfl rfl HG.out.len HGC.out.len HGC.out.one ?_))
    intro w2_ hb2_ hg2_ hsz2_
    replace HB := kp (put_below HB.out HG_g.out hg2_)
    replace HV := kp (At.off HV.out hg2_ HG_HV.out)
    replace HD := kp (At.off HD.out hg2_ HG_HD.out)
    replace HM := kp (At.off HM.out hg2_ HG_HM.out)
    replace HO := kp (HO.out.kept HG.out.blk (by decide) hg2_)
    replace HG := kp (at_mk hb2_ HGC.out.len)
    clear hb2_ hg2_ hsz2_
    try clear w_
    rename World => w_
    have c35 := HG.out.blk.at_ HG35.out
    have c36 := HG.out.blk.at_ HG36.out
    have c1 := HG.out.blk.at_ HG1.out
    have HOR := kp (show w_.ownsRow (gd + 1) 25 1 (.slice Av 2 cv) 2 (numsV vs) from HO.out)
    have HDZ := kp (show gd + 1 ≤ w_.heap.size by have := HD.out.lt; omega)
    go_wp2_with (first | (at_builtin; refine wpl_app1 rfl rfl el_u64s HOR.out rfl (m := 1) rfl ?_ ?_ ?_ ?_ ?_ ?_))
    ·rfl
    ·rfl
    ·omega
    ·omega
    ·exact HDZ.out
    intro A4 c4 w4_ ho_ hg_ hA_
    have hne_ := own_from HOR.out
    replace HV := kp (show At w4_ g2 27 37 (entV noEnt) from at_mk (HV.out.blk.grown hg_ (fun e => own_ne HOR.out HV.out.blk (by decide) _ e.symm rfl)) HV.out.len)
    replace HD := kp (show At w4_ gd 24 32 (dd.map B) from at_mk (HD.out.blk.grown hg_ (fun e => own_ne HOR.out HD.out.blk (by decide) _ e.symm rfl)) HD.out.len)
    replace HM := kp (show At w4_ gm 25 6 _ from at_mk (HM.out.blk.grown hg_ (fun e => by have h1 := hne_ _ e.symm; have := HMLT.out; omega)) HM.out.len)
    replace HG := kp (show At w4_ g9 75 37 gv from at_mk (HG.out.blk.grown hg_ (fun e => own_ne HOR.out HG.out.blk (by decide) _ e.symm rfl)) HG.out.len)
    replace HO := kp (show OwnN w4_ (gd + 1) A4 3 c4 (vs ++ [0]) by unfold OwnN numsV; rw [List.map_append]; exact ho_)
    replace HB := kp (below_grown HB.out hg_ HB.out.size (fun q hq => by have h1 := hne_ q hq; have := HDG.out; omega))
    clear ho_ hg_ hA_ hne_ HOR HDZ c35 c36 c1
    try clear w_
    rename World => w_
    have HGM := kp (show ∀ (j : Nat) (u : Value), (v.map B)[j]? = some u → w_.cell? ⟨g9, 3 + j, none⟩ = some u from fun j u hu => HG.out.blk.at_ (HGD.out j u hu))
    go_wp2_with (first | (with_reducible refine wpl_loadm (o := ⟨some 44, _, _, _, _, _⟩) rfl rfl row_id HGM.out rfl HDN.out.len ?_) | (with_reducible refine wpl_storeb (o := ⟨none, .store _ _ _, _, _, _, _⟩) rfl rfl row_id HD.out.blk rfl rfl HD.out.len HDN.out.len HDN.out.one ?_))
    intro w2_ hb2_ hg2_ hsz2_
    replace HB := kp (put_below HB.out HDG.out hg2_)
    replace HD := kp (at_mk hb2_ HDN.out.len)
    replace HV := kp (At.off HV.out hg2_ HD_HV.out)
    replace HM := kp (At.off HM.out hg2_ HD_HM.out)
    replace HO := kp (show OwnN w2_ (gd + 1) A4 3 c4 (vs ++ [0]) from own_kept HO.out hg2_ (fun q hq e => by have h1 := own_from HO.out q (by rw [hq]; rfl); injection e with e; omega))
    clear hb2_ hg2_ hsz2_ HG HGM
    try clear w_
    rename World => w_
    have HVN := kp (show (vs ++ [0]).length = 3 by rw [List.length_append, HVL.out]; rfl)
    have HVBN := kp (show ∀ u ∈ vs ++ [0], u ≤ 4611686018427387904 from fun u hu => by rcases List.mem_append.1 hu with hu | hu; exact HVB.out u hu; rw [List.mem_singleton.1 hu]; exact (by omega))
    go_wp2_with fail
    go_roundw
    case rel => exact ⟨3, A2, c2, t, A4, c4, vs ++ [0], v, by omega, rfl, by rw [HTE.out], rfl, kp ⟨HLN.out, HVN.out, HVBN.out, HDN.out.2, HTL.out, HC2.out, HS2.out, HV.out, HD.out, HM.out, HO.out, HB.out⟩⟩
    case measure => simp [intOf]
  ·skip
   have HLK2 := HLI.out
   rw [lfE] at HLK2
   have HLK_ := kp HLK2
   clear HLK2 HLI
   have cm := HM.out.blk.at_ (i := 3) rfl
   go_wp2_with (first | (with_reducible refine wpl_stop (o := ⟨some 19, _, _, _, _, _⟩) ?_))
   refine stop_go ?_
   refine wpl_build rfl rfl TFc.out ?_
   go_wp2_with (first | (with_reducible refine wpl_alloc (o := ⟨some 8, _, _, _, _, _⟩) rfl rfl zero_fld ?_))
   intro w2_ hb2_ hb_ hsz2_
   have HX_ := kp (at_mk hb2_ len_fld)
   clear hb2_ hsz2_
   have HG_ := kp HB.out.size
   have HF_HV := kp (Nat.ne_of_lt HV.out.lt)
   have HF_HD := kp (Nat.ne_of_lt HD.out.lt)
   have HF_HM := kp (Nat.ne_of_lt HM.out.lt)
   replace HB := kp (HB.out.grow' hb_)
   replace HV := kp (HV.out.grow hb_)
   replace HD := kp (HD.out.grow hb_)
   replace HM := kp (HM.out.grow hb_)
   replace HO := kp (HO.out.grow hb_)
   generalize hg_ : w_.heap.size = g8 at HX_ HG_ HF_HV HF_HD HF_HM ⊢
   clear hg_
   have HF_g := HG_
   clear HG_
   have HF := HX_
   clear hb_ HX_
   try clear w_
   rename World => w_
   go_wp2_with (first | (with_reducible refine wpl_storeb (o := ⟨none, .store _ _ _, _, _, _, _⟩) rfl rfl row_fld HF.out.blk rfl rfl HF.out.len HFc.out.len HFc.out.one ?_))
   intro w2_ hb2_ hg2_ hsz2_
   replace HB := kp (put_below HB.out HF_g.out hg2_)
   replace HV := kp (At.off HV.out hg2_ HF_HV.out)
   replace HD := kp (At.off HD.out hg2_ HF_HD.out)
   replace HM := kp (At.off HM.out hg2_ HF_HM.out)
   replace HO := kp (HO.out.kept HF.out.blk (by decide) hg2_)
   replace HF := kp (at_mk hb2_ HFc.out.len)
   clear hb2_ hg2_ hsz2_
   try clear w_
   rename World => w_
   clear cm
   go_wp2_with (first | (with_reducible refine wpl_loadb (o := ⟨some 24, _, _, _, _, _⟩) rfl rfl row_fld HF.out.blk rfl HF.out.len ?_))
   refine (TNc.out _ _ _ _ _ _ (HSL.out.below HB.out) HB.out.size (by rw [HNL.out]; exact HLC.out) (by rw [HNL.out]; exact Nat.le_trans HLL.out HN0.out)).mono ?_
   rintro e w2_ hr_
   obtain ⟨hb_, ⟨x, hx, rfl⟩ | ⟨v, t, f, A2, c2, hx, rfl, hcl, hfv, hs2, hc2⟩⟩ := hr_.get
   ·skip
    have HX := kp (show lookE l = .error x by have h := HLK_.out; rw [hx] at h; rw [HLK.out, ← h])
    have HXN := kp (show x ≠ 0 from numR_err hx)
    clear hr_ hx HF HM HO HD
    replace HV := kp (HV.out.grow hb_)
    replace HB := kp (HB.out.grow' hb_)
    clear hb_
    try clear w_
    rename World => w_
    have HGZ := kp (show Cl 37 (gotV noF (x : Int) nilS) from gotV_cl noF_cl rfl)
    have HG35 := kp (show (gotV noF (x : Int) nilS)[35]? = some (.int .i64 (x : Int)) from (gotV_at noF_cl).1)
    obtain ⟨gz, hgz⟩ : ∃ q, q = gotV noF (x : Int) nilS := ⟨_, rfl⟩
    rw [← hgz] at HGZ HG35 ⊢
    clear hgz
    go_wp2_with (first | (with_reducible refine wpl_alloc (o := ⟨some 9, _, _, _, _, _⟩) rfl rfl zero_got ?_))
    intro w2_ hb2_ hb_ hsz2_
    have HX_ := kp (at_mk hb2_ len_got)
    clear hb2_ hsz2_
    have HG_ := kp HB.out.size
    have HG_HV := kp (Nat.ne_of_lt HV.out.lt)
    replace HB := kp (HB.out.grow' hb_)
    replace HV := kp (HV.out.grow hb_)
    generalize hg_ : w_.heap.size = g9 at HX_ HG_ HG_HV ⊢
    clear hg_
    have HG_g := HG_
    clear HG_
    have HG := HX_
    clear hb_ HX_
    try clear w_
    rename World => w_
    go_wp2_with (first | (with_reducible refine wpl_storeb (o := ⟨none, .store _ _ _, _, _, _, _⟩) rfl rfl row_got HG.out.blk rfl rfl HG.out.len HGZ.out.len HGZ.out.one ?_))
    intro w2_ hb2_ hg2_ hsz2_
    replace HB := kp (put_below HB.out HG_g.out hg2_)
    replace HG := kp (at_mk hb2_ HGZ.out.len)
    replace HV := kp (At.off HV.out hg2_ HG_HV.out)
    clear hb2_ hg2_ hsz2_
    try clear w_
    rename World => w_
    have c35 := HG.out.blk.at_ HG35.out
    have d0 : ((x : Int) != 0) = true := by simp; exact HXN.out
    try go_wp2_with fail
    repeat' (first | (with_reducible refine wp_plan (id := 12) (fun a b => a.grownBy b (some g2)) [0,0,1,4,0] (.get 0 (.get 1 (.get 2 (.act 3 (.get 4 .done))))) (by kernel_rfl) (by kernel_rfl) (fun a => grownBy_refl a _) (fun _ _ _ h k => grownBy_trans h k) ?_) | go_values | go_skip | go_guarded | go_step | go_upon | go_back)
    intro w_ hd_
    have hb_ := hd_.grow
    replace HB := kp (HB.out.grow' hb_)
    replace HV := kp (HV.out.grow hb_)
    replace HG := kp (HG.out.grow hb_)
    clear hb_ hd_
    refine pl_calm rfl rfl (by exact wanted_none rfl) (fun w_ => by exact exec_build rfl T0.out w_) (fun K hK => ?_)
    go_simp
    refine hK _ _ ?_
    clear hK K
    repeat ((first | refine pl_calm rfl rfl (by first | exact wanted_none rfl | (go_simp; done) | rfl) (fun w_ => by first | (go_simp; rfl) | (go_simp; done) | rfl) (fun K hK => ?_) | refine pl_skip rfl (by first | (go_simp; done) | rfl) (fun K hK => ?_) | refine pl_skipa rfl (by first | (go_simp; done) | rfl) (fun K hK => ?_)); go_simp; refine hK _ _ ?_; clear hK K)
    refine pl_read rfl rfl (by exact wanted_none rfl) (v := .int .i64 (x : Int)) (fun w3_ hf_ => by have c9 := (HG.out.blk.grown hf_ (fun e => HG_HV.out (Option.some.inj e).symm)).at_ HG35.out; first | (go_simp; rfl) | (go_simp; done)) (fun K hK => ?_)
    go_simp
    refine hK _ _ ?_
    clear hK K
    refine pl_act rfl (by exact wanted_none rfl) (fun K hK => ?_)
    show wpList _ _ _ [⟨none, .store _ _ _, _, _, _, _⟩] _ _
    go_wp2_with (first | (with_reducible refine wpl_storeb (o := ⟨none, .store _ _ _, _, _, _, _⟩) rfl rfl row_entry HV.out.blk rfl rfl HV.out.len HCZ.out.len HCZ.out.one ?_))
    intro w2_ hb2_ hg2_ hsz2_
    go_wp2_with fail
    refine hK _ _ (fun _ => hg2_) ?_
    clear hK K
    replace HB := kp (put_below HB.out HV_g.out hg2_)
    replace HV := kp (at_mk hb2_ HCZ.out.len)
    clear hb2_ hg2_ hsz2_
    repeat ((first | refine pl_calm rfl rfl (by first | exact wanted_none rfl | (go_simp; done) | rfl) (fun w_ => by first | (go_simp; rfl) | (go_simp; done) | rfl) (fun K hK => ?_) | refine pl_skip rfl (by first | (go_simp; done) | rfl) (fun K hK => ?_) | refine pl_skipa rfl (by first | (go_simp; done) | rfl) (fun K hK => ?_)); go_simp; refine hK _ _ ?_; clear hK K)
    refine pl_done ?_
    go_wp2_with fail
    refine ret_cell_tmp rfl row_entry HV.out.blk rfl HV.out.len rfl rfl ?_
    exact ⟨by rw [(HRE.out x HX.out).1, (HRE.out x HX.out).2]; rfl, HB.out⟩
   ·skip
    have HLN := kp (show lfE 4 (vs ++ [v]) dd t = rs by have h := HLK_.out; rw [hx] at h; exact h)
    have HTL := kp (show t.length ≤ l.length from Nat.le_trans (numR_le hx).2.2 HLL.out)
    have HVM := kp (numR_le hx).1
    have HGC := kp (show Cl 37 (gotV f 0 (.slice A2 t.length c2)) from gotV_cl hcl rfl)
    have HG35 := kp (show (gotV f 0 (.slice A2 t.length c2))[35]? = some (.int .i64 0) from (gotV_at hcl).1)
    have HG36 := kp (show (gotV f 0 (.slice A2 t.length c2))[36]? = some (.slice A2 t.length c2) from (gotV_at hcl).2.1)
    have HG1 := kp (show (gotV f 0 (.slice A2 t.length c2))[1]? = some (.int .u64 ((v : Nat) : Int)) from (gotV_at hcl).2.2 _ _ (by rw [show f = _ from hfv]; rfl))
    have HS2 := kp (show Sl w w.heap.size 1 A2 t.length (t.map B) from hs2.back (HB.out.grow' hb_))
    have HC2 := kp hc2
    obtain ⟨tl, htl⟩ : ∃ q, q = t.length := ⟨_, rfl⟩
    obtain ⟨gv, hgv⟩ : ∃ q, q = gotV f 0 (.slice A2 t.length c2) := ⟨_, rfl⟩
    rw [← hgv] at HGC HG35 HG36 HG1 ⊢
    rw [← htl] at HG36
    have HTE := kp htl
    clear hr_ hx hcl hfv hs2 hc2 hgv htl HF HSL HLK_ HLC
    replace HV := kp (HV.out.grow hb_)
    replace HD := kp (HD.out.grow hb_)
    replace HM := kp (HM.out.grow hb_)
    replace HO := kp (HO.out.grow hb_)
    replace HB := kp (HB.out.grow' hb_)
    clear hb_
    try clear w_
    rename World => w_
    go_wp2_with (first | (with_reducible refine wpl_alloc (o := ⟨some 9, _, _, _, _, _⟩) rfl rfl zero_got ?_))
    intro w2_ hb2_ hb_ hsz2_
    have HX_ := kp (at_mk hb2_ len_got)
    clear hb2_ hsz2_
    have HG_ := kp HB.out.size
    have HG_HV := kp (Nat.ne_of_lt HV.out.lt)
    have HG_HD := kp (Nat.ne_of_lt HD.out.lt)
    have HG_HM := kp (Nat.ne_of_lt HM.out.lt)
    replace HB := kp (HB.out.grow' hb_)
    replace HV := kp (HV.out.grow hb_)
    replace HD := kp (HD.out.grow hb_)
    replace HM := kp (HM.out.grow hb_)
    replace HO := kp (HO.out.grow hb_)
    generalize hg_ : w_.heap.size = g9 at HX_ HG_ HG_HV HG_HD HG_HM ⊢
    clear hg_
    have HG_g := HG_
    clear HG_
    have HG := HX_
    clear hb_ HX_
    try clear w_
    rename World => w_
    go_wp2_with (first | (with_reducible refine wpl_storeb (o := ⟨none, .store _ _ _, _, _, _, _⟩) rfl rfl row_got HG.out.blk rfl rfl HG.out.len HGC.out.len HGC.out.one ?_))
    intro w2_ hb2_ hg2_ hsz2_
    replace HB := kp (put_below HB.out HG_g.out hg2_)
    replace HV := kp (At.off HV.out hg2_ HG_HV.out)
    replace HD := kp (At.off HD.out hg2_ HG_HD.out)
    replace HM := kp (At.off HM.out hg2_ HG_HM.out)
    replace HO := kp (HO.out.kept HG.out.blk (by decide) hg2_)
    replace HG := kp (at_mk hb2_ HGC.out.len)
    clear hb2_ hg2_ hsz2_
    try clear w_
    rename World => w_
    have c35 := HG.out.blk.at_ HG35.out
    have c36 := HG.out.blk.at_ HG36.out
    have c1 := HG.out.blk.at_ HG1.out
    have HOR := kp (show w_.ownsRow (gd + 1) 25 1 (.slice Av 3 cv) 3 (numsV vs) from HO.out)
    have HDZ := kp (show gd + 1 ≤ w_.heap.size by have := HD.out.lt; omega)
    go_wp2_with (first | (at_builtin; refine wpl_app1 rfl rfl el_u64s HOR.out rfl (m := 1) rfl ?_ ?_ ?_ ?_ ?_ ?_))
    ·rfl
    ·rfl
    ·omega
    ·omega
    ·exact HDZ.out
    intro A4 c4 w4_ ho_ hg_ hA_
    have hne_ := own_from HOR.out
    replace HV := kp (show At w4_ g2 27 37 (entV noEnt) from at_mk (HV.out.blk.grown hg_ (fun e => own_ne HOR.out HV.out.blk (by decide) _ e.symm rfl)) HV.out.len)
    replace HD := kp (show At w4_ gd 24 32 (dd.map B) from at_mk (HD.out.blk.grown hg_ (fun e => own_ne HOR.out HD.out.blk (by decide) _ e.symm rfl)) HD.out.len)
    replace HM := kp (show At w4_ gm 25 6 _ from at_mk (HM.out.blk.grown hg_ (fun e => by have h1 := hne_ _ e.symm; have := HMLT.out; omega)) HM.out.len)
    replace HG := kp (show At w4_ g9 75 37 gv from at_mk (HG.out.blk.grown hg_ (fun e => own_ne HOR.out HG.out.blk (by decide) _ e.symm rfl)) HG.out.len)
    replace HO := kp (show OwnN w4_ (gd + 1) A4 4 c4 (vs ++ [v]) by unfold OwnN numsV; rw [List.map_append]; exact ho_)
    replace HB := kp (below_grown HB.out hg_ HB.out.size (fun q hq => by have h1 := hne_ q hq; have := HDG.out; omega))
    clear ho_ hg_ hA_ hne_ HOR HDZ c35 c36 c1
    try clear w_
    rename World => w_
    have HVN := kp (show (vs ++ [v]).length = 4 by rw [List.length_append, HVL.out]; rfl)
    have HVBN := kp (show ∀ u ∈ vs ++ [v], u ≤ 4611686018427387904 from fun u hu => by rcases List.mem_append.1 hu with hu | hu; exact HVB.out u hu; rw [List.mem_singleton.1 hu]; exact (by have h1 := HVM.out; omega))
    go_wp2_with fail
    go_roundw
    case rel => exact ⟨4, A2, c2, t, A4, c4, vs ++ [v], dd, by omega, rfl, by rw [HTE.out], rfl, kp ⟨HLN.out, HVN.out, HVBN.out, HDL.out, HTL.out, HC2.out, HS2.out, HV.out, HD.out, HM.out, HO.out, HB.out⟩⟩
    case measure => simp [intOf]
  ·skip
   have HLK2 := HLI.out
   rw [lfE] at HLK2
   have HLK_ := kp HLK2
   clear HLK2 HLI
   have cm := HM.out.blk.at_ (i := 4) rfl
   go_wp2_with (first | (with_reducible refine wpl_stop (o := ⟨some 19, _, _, _, _, _⟩) ?_))
   refine stop_go ?_
   refine wpl_build rfl rfl TFb.out ?_
   go_wp2_with (first | (with_reducible refine wpl_alloc (o := ⟨some 8, _, _, _, _, _⟩) rfl rfl zero_fld ?_))
   intro w2_ hb2_ hb_ hsz2_
   have HX_ := kp (at_mk hb2_ len_fld)
   clear hb2_ hsz2_
   have HG_ := kp HB.out.size
   have HF_HV := kp (Nat.ne_of_lt HV.out.lt)
   have HF_HD := kp (Nat.ne_of_lt HD.out.lt)
   have HF_HM := kp (Nat.ne_of_lt HM.out.lt)
   replace HB := kp (HB.out.grow' hb_)
   replace HV := kp (HV.out.grow hb_)
   replace HD := kp (HD.out.grow hb_)
   replace HM := kp (HM.out.grow hb_)
   replace HO := kp (HO.out.grow hb_)
   generalize hg_ : w_.heap.size = g8 at HX_ HG_ HF_HV HF_HD HF_HM ⊢
   clear hg_
   have HF_g := HG_
   clear HG_
   have HF := HX_
   clear hb_ HX_
   try clear w_
   rename World => w_
   go_wp2_with (first | (with_reducible refine wpl_storeb (o := ⟨none, .store _ _ _, _, _, _, _⟩) rfl rfl row_fld HF.out.blk rfl rfl HF.out.len HFb.out.len HFb.out.one ?_))
   intro w2_ hb2_ hg2_ hsz2_
   replace HB := kp (put_below HB.out HF_g.out hg2_)
   replace HV := kp (At.off HV.out hg2_ HF_HV.out)
   replace HD := kp (At.off HD.out hg2_ HF_HD.out)
   replace HM := kp (At.off HM.out hg2_ HF_HM.out)
   replace HO := kp (HO.out.kept HF.out.blk (by decide) hg2_)
   replace HF := kp (at_mk hb2_ HFb.out.len)
   clear hb2_ hg2_ hsz2_
   try clear w_
   rename World => w_
   clear cm
   go_wp2_with (first | (with_reducible refine wpl_loadb (o := ⟨some 24, _, _, _, _, _⟩) rfl rfl row_fld HF.out.blk rfl HF.out.len ?_))
   refine (TNb.out _ _ _ _ _ _ (HSL.out.below HB.out) HB.out.size (by rw [HNL.out]; exact HLC.out) (by rw [HNL.out]; exact Nat.le_trans HLL.out HN0.out)).mono ?_
   rintro e w2_ hr_
   obtain ⟨hb_, ⟨x, hx, rfl⟩ | ⟨v, t, f, A2, c2, hx, rfl, hcl, hfv, hs2, hc2⟩⟩ := hr_.get
   ·skip
    have HX := kp (show lookE l = .error x by have h := HLK_.out; rw [hx] at h; rw [HLK.out, ← h])
    have HXN := kp (show x ≠ 0 from numR_err hx)
    clear hr_ hx HF HM HO HD
    replace HV := kp (HV.out.grow hb_)
    replace HB := kp (HB.out.grow' hb_)
    clear hb_
    try clear w_
    rename World => w_
    have HGZ := kp (show Cl 37 (gotV noF (x : Int) nilS) from gotV_cl noF_cl rfl)
    have HG35 := kp (show (gotV noF (x : Int) nilS)[35]? = some (.int .i64 (x : Int)) from (gotV_at noF_cl).1)
    obtain ⟨gz, hgz⟩ : ∃ q, q = gotV noF (x : Int) nilS := ⟨_, rfl⟩
    rw [← hgz] at HGZ HG35 ⊢
    clear hgz
    go_wp2_with (first | (with_reducible refine wpl_alloc (o := ⟨some 9, _, _, _, _, _⟩) rfl rfl zero_got ?_))
    intro w2_ hb2_ hb_ hsz2_
    have HX_ := kp (at_mk hb2_ len_got)
    clear hb2_ hsz2_
    have HG_ := kp HB.out.size
    have HG_HV := kp (Nat.ne_of_lt HV.out.lt)
    replace HB := kp (HB.out.grow' hb_)
    replace HV := kp (HV.out.grow hb_)
    generalize hg_ : w_.heap.size = g9 at HX_ HG_ HG_HV ⊢
    clear hg_
    have HG_g := HG_
    clear HG_
    have HG := HX_
    clear hb_ HX_
    try clear w_
    rename World => w_
    go_wp2_with (first | (with_reducible refine wpl_storeb (o := ⟨none, .store _ _ _, _, _, _, _⟩) rfl rfl row_got HG.out.blk rfl rfl HG.out.len HGZ.out.len HGZ.out.one ?_))
    intro w2_ hb2_ hg2_ hsz2_
    replace HB := kp (put_below HB.out HG_g.out hg2_)
    replace HG := kp (at_mk hb2_ HGZ.out.len)
    replace HV := kp (At.off HV.out hg2_ HG_HV.out)
    clear hb2_ hg2_ hsz2_
    try clear w_
    rename World => w_
    have c35 := HG.out.blk.at_ HG35.out
    have d0 : ((x : Int) != 0) = true := by simp; exact HXN.out
    try go_wp2_with fail
    repeat' (first | (with_reducible refine wp_plan (id := 12) (fun a b => a.grownBy b (some g2)) [0,0,1,4,0] (.get 0 (.get 1 (.get 2 (.act 3 (.get 4 .done))))) (by kernel_rfl) (by kernel_rfl) (fun a => grownBy_refl a _) (fun _ _ _ h k => grownBy_trans h k) ?_) | go_values | go_skip | go_guarded | go_step | go_upon | go_back)
    intro w_ hd_
    have hb_ := hd_.grow
    replace HB := kp (HB.out.grow' hb_)
    replace HV := kp (HV.out.grow hb_)
    replace HG := kp (HG.out.grow hb_)
    clear hb_ hd_
    refine pl_calm rfl rfl (by exact wanted_none rfl) (fun w_ => by exact exec_build rfl T0.out w_) (fun K hK => ?_)
    go_simp
    refine hK _ _ ?_
    clear hK K
    repeat ((first | refine pl_calm rfl rfl (by first | exact wanted_none rfl | (go_simp; done) | rfl) (fun w_ => by first | (go_simp; rfl) | (go_simp; done) | rfl) (fun K hK => ?_) | refine pl_skip rfl (by first | (go_simp; done) | rfl) (fun K hK => ?_) | refine pl_skipa rfl (by first | (go_simp; done) | rfl) (fun K hK => ?_)); go_simp; refine hK _ _ ?_; clear hK K)
    refine pl_read rfl rfl (by exact wanted_none rfl) (v := .int .i64 (x : Int)) (fun w3_ hf_ => by have c9 := (HG.out.blk.grown hf_ (fun e => HG_HV.out (Option.some.inj e).symm)).at_ HG35.out; first | (go_simp; rfl) | (go_simp; done)) (fun K hK => ?_)
    go_simp
    refine hK _ _ ?_
    clear hK K
    refine pl_act rfl (by exact wanted_none rfl) (fun K hK => ?_)
    show wpList _ _ _ [⟨none, .store _ _ _, _, _, _, _⟩] _ _
    go_wp2_with (first | (with_reducible refine wpl_storeb (o := ⟨none, .store _ _ _, _, _, _, _⟩) rfl rfl row_entry HV.out.blk rfl rfl HV.out.len HCZ.out.len HCZ.out.one ?_))
    intro w2_ hb2_ hg2_ hsz2_
    go_wp2_with fail
    refine hK _ _ (fun _ => hg2_) ?_
    clear hK K
    replace HB := kp (put_below HB.out HV_g.out hg2_)
    replace HV := kp (at_mk hb2_ HCZ.out.len)
    clear hb2_ hg2_ hsz2_
    repeat ((first | refine pl_calm rfl rfl (by first | exact wanted_none rfl | (go_simp; done) | rfl) (fun w_ => by first | (go_simp; rfl) | (go_simp; done) | rfl) (fun K hK => ?_) | refine pl_skip rfl (by first | (go_simp; done) | rfl) (fun K hK => ?_) | refine pl_skipa rfl (by first | (go_simp; done) | rfl) (fun K hK => ?_)); go_simp; refine hK _ _ ?_; clear hK K)
    refine pl_done ?_
    go_wp2_with fail
    refine ret_cell_tmp rfl row_entry HV.out.blk rfl HV.out.len rfl rfl ?_
    exact ⟨by rw [(HRE.out x HX.out).1, (HRE.out x HX.out).2]; rfl, HB.out⟩
   ·skip
    have HLN := kp (show lfE 5 (vs ++ [v]) dd t = rs by have h := HLK_.out; rw [hx] at h; exact h)
    have HTL := kp (show t.length ≤ l.length from Nat.le_trans (numR_le hx).2.2 HLL.out)
    have HVM := kp (numR_le hx).1
    have HGC := kp (show Cl 37 (gotV f 0 (.slice A2 t.length c2)) from gotV_cl hcl rfl)
    have HG35 := kp (show (gotV f 0 (.slice A2 t.length c2))[35]? = some (.int .i64 0) from (gotV_at hcl).1)
    have HG36 := kp (show (gotV f 0 (.slice A2 t.length c2))[36]? = some (.slice A2 t.length c2) from (gotV_at hcl).2.1)
    have HG1 := kp (show (gotV f 0 (.slice A2 t.length c2))[1]? = some (.int .u64 ((v : Nat) : Int)) from (gotV_at hcl).2.2 _ _ (by rw [show f = _ from hfv]; rfl))
    have HS2 := kp (show Sl w w.heap.size 1 A2 t.length (t.map B) from hs2.back (HB.out.grow' hb_))
    have HC2 := kp hc2
    obtain ⟨tl, htl⟩ : ∃ q, q = t.length := ⟨_, rfl⟩
    obtain ⟨gv, hgv⟩ : ∃ q, q = gotV f 0 (.slice A2 t.length c2) := ⟨_, rfl⟩
    rw [← hgv] at HGC HG35 HG36 HG1 ⊢
    rw [← htl] at HG36
    have HTE := kp htl
    clear hr_ hx hcl hfv hs2 hc2 hgv htl HF HSL HLK_ HLC
    replace HV := kp (HV.out.grow hb_)
    replace HD := kp (HD.out.grow hb_)
    replace HM := kp (HM.out.grow hb_)
    replace HO := kp (HO.out.grow hb_)
    replace HB := kp (HB.out.grow' hb_)
    clear hb_
    try clear w_
    rename World => w_
    go_wp2_with (first | (with_reducible refine wpl_alloc (o := ⟨some 9, _, _, _, _, _⟩) rfl rfl zero_got ?_))
    intro w2_ hb2_ hb_ hsz2_
    have HX_ := kp (at_mk hb2_ len_got)
    clear hb2_ hsz2_
    have HG_ := kp HB.out.size
    have HG_HV := kp (Nat.ne_of_lt HV.out.lt)
    have HG_HD := kp (Nat.ne_of_lt HD.out.lt)
    have HG_HM := kp (Nat.ne_of_lt HM.out.lt)
    replace HB := kp (HB.out.grow' hb_)
    replace HV := kp (HV.out.grow hb_)
    replace HD := kp (HD.out.grow hb_)
    replace HM := kp (HM.out.grow hb_)
    replace HO := kp (HO.out.grow hb_)
    generalize hg_ : w_.heap.size = g9 at HX_ HG_ HG_HV HG_HD HG_HM ⊢
    clear hg_
    have HG_g := HG_
    clear HG_
    have HG := HX_
    clear hb_ HX_
    try clear w_
    rename World => w_
    go_wp2_with (first | (with_reducible refine wpl_storeb (o := ⟨none, .store _ _ _, _, _, _, _⟩) rfl rfl row_got HG.out.blk rfl rfl HG.out.len HGC.out.len HGC.out.one ?_))
    intro w2_ hb2_ hg2_ hsz2_
    replace HB := kp (put_below HB.out HG_g.out hg2_)
    replace HV := kp (At.off HV.out hg2_ HG_HV.out)
    replace HD := kp (At.off HD.out hg2_ HG_HD.out)
    replace HM := kp (At.off HM.out hg2_ HG_HM.out)
    replace HO := kp (HO.out.kept HG.out.blk (by decide) hg2_)
    replace HG := kp (at_mk hb2_ HGC.out.len)
    clear hb2_ hg2_ hsz2_
    try clear w_
    rename World => w_
    have c35 := HG.out.blk.at_ HG35.out
    have c36 := HG.out.blk.at_ HG36.out
    have c1 := HG.out.blk.at_ HG1.out
    have HOR := kp (show w_.ownsRow (gd + 1) 25 1 (.slice Av 4 cv) 4 (numsV vs) from HO.out)
    have HDZ := kp (show gd + 1 ≤ w_.heap.size by have := HD.out.lt; omega)
    go_wp2_with (first | (at_builtin; refine wpl_app1 rfl rfl el_u64s HOR.out rfl (m := 1) rfl ?_ ?_ ?_ ?_ ?_ ?_))
    ·rfl
    ·rfl
    ·omega
    ·omega
    ·exact HDZ.out
    intro A4 c4 w4_ ho_ hg_ hA_
    have hne_ := own_from HOR.out
    replace HV := kp (show At w4_ g2 27 37 (entV noEnt) from at_mk (HV.out.blk.grown hg_ (fun e => own_ne HOR.out HV.out.blk (by decide) _ e.symm rfl)) HV.out.len)
    replace HD := kp (show At w4_ gd 24 32 (dd.map B) from at_mk (HD.out.blk.grown hg_ (fun e => own_ne HOR.out HD.out.blk (by decide) _ e.symm rfl)) HD.out.len)
    replace HM := kp (show At w4_ gm 25 6 _ from at_mk (HM.out.blk.grown hg_ (fun e => by have h1 := hne_ _ e.symm; have := HMLT.out; omega)) HM.out.len)
    replace HG := kp (show At w4_ g9 75 37 gv from at_mk (HG.out.blk.grown hg_ (fun e => own_ne HOR.out HG.out.blk (by decide) _ e.symm rfl)) HG.out.len)
    replace HO := kp (show OwnN w4_ (gd + 1) A4 5 c4 (vs ++ [v]) by unfold OwnN numsV; rw [List.map_append]; exact ho_)
    replace HB := kp (below_grown HB.out hg_ HB.out.size (fun q hq => by have h1 := hne_ q hq; have := HDG.out; omega))
    clear ho_ hg_ hA_ hne_ HOR HDZ c35 c36 c1
    try clear w_
    rename World => w_
    have HVN := kp (show (vs ++ [v]).length = 5 by rw [List.length_append, HVL.out]; rfl)
    have HVBN := kp (show ∀ u ∈ vs ++ [v], u ≤ 4611686018427387904 from fun u hu => by rcases List.mem_append.1 hu with hu | hu; exact HVB.out u hu; rw [List.mem_singleton.1 hu]; exact (by have h1 := HVM.out; omega))
    go_wp2_with fail
    go_roundw
    case rel => exact ⟨5, A2, c2, t, A4, c4, vs ++ [v], dd, by omega, rfl, by rw [HTE.out], rfl, kp ⟨HLN.out, HVN.out, HVBN.out, HDL.out, HTL.out, HC2.out, HS2.out, HV.out, HD.out, HM.out, HO.out, HB.out⟩⟩
    case measure => simp [intOf]
  ·skip
   have HLK2 := HLI.out
   rw [lfE] at HLK2
   have HLK_ := kp HLK2
   clear HLK2 HLI
   have cm := HM.out.blk.at_ (i := 5) rfl
   go_wp2_with (first | (with_reducible refine wpl_stop (o := ⟨some 19, _, _, _, _, _⟩) ?_))
   refine stop_go ?_
   refine wpl_build rfl rfl TFd.out ?_
   go_wp2_with (first | (with_reducible refine wpl_alloc (o := ⟨some 8, _, _, _, _, _⟩) rfl rfl zero_fld ?_))
   intro w2_ hb2_ hb_ hsz2_
   have HX_ := kp (at_mk hb2_ len_fld)
   clear hb2_ hsz2_
   have HG_ := kp HB.out.size
   have HF_HV := kp (Nat.ne_of_lt HV.out.lt)
   have HF_HD := kp (Nat.ne_of_lt HD.out.lt)
   have HF_HM := kp (Nat.ne_of_lt HM.out.lt)
   replace HB := kp (HB.out.grow' hb_)
   replace HV := kp (HV.out.grow hb_)
   replace HD := kp (HD.out.grow hb_)
   replace HM := kp (HM.out.grow hb_)
   replace HO := kp (HO.out.grow hb_)
   generalize hg_ : w_.heap.size = g8 at HX_ HG_ HF_HV HF_HD HF_HM ⊢
   clear hg_
   have HF_g := HG_
   clear HG_
   have HF := HX_
   clear hb_ HX_
   try clear w_
   rename World => w_
   go_wp2_with (first | (with_reducible refine wpl_storeb (o := ⟨none, .store _ _ _, _, _, _, _⟩) rfl rfl row_fld HF.out.blk rfl rfl HF.out.len HFd.out.len HFd.out.one ?_))
   intro w2_ hb2_ hg2_ hsz2_
   replace HB := kp (put_below HB.out HF_g.out hg2_)
   replace HV := kp (At.off HV.out hg2_ HF_HV.out)
   replace HD := kp (At.off HD.out hg2_ HF_HD.out)
   replace HM := kp (At.off HM.out hg2_ HF_HM.out)
   replace HO := kp (HO.out.kept HF.out.blk (by decide) hg2_)
   replace HF := kp (at_mk hb2_ HFd.out.len)
   clear hb2_ hg2_ hsz2_
   try clear w_
   rename World => w_
   clear cm
   go_wp2_with (first | (with_reducible refine wpl_loadb (o := ⟨some 24, _, _, _, _, _⟩) rfl rfl row_fld HF.out.blk rfl HF.out.len ?_))
   refine (TNd.out _ _ _ _ _ _ (HSL.out.below HB.out) HB.out.size (by rw [HNL.out]; exact HLC.out) (by rw [HNL.out]; exact Nat.le_trans HLL.out HN0.out)).mono ?_
   rintro e w2_ hr_
   obtain ⟨hb_, ⟨x, hx, rfl⟩ | ⟨v, t, f, A2, c2, hx, rfl, hcl, hfv, hs2, hc2⟩⟩ := hr_.get
   ·skip
    have HX := kp (show lookE l = .error x by have h := HLK_.out; rw [hx] at h; rw [HLK.out, ← h])
    have HXN := kp (show x ≠ 0 from numR_err hx)
    clear hr_ hx HF HM HO HD
    replace HV := kp (HV.out.grow hb_)
    replace HB := kp (HB.out.grow' hb_)
    clear hb_
    try clear w_
    rename World => w_
    have HGZ := kp (show Cl 37 (gotV noF (x : Int) nilS) from gotV_cl noF_cl rfl)
    have HG35 := kp (show (gotV noF (x : Int) nilS)[35]? = some (.int .i64 (x : Int)) from (gotV_at noF_cl).1)
    obtain ⟨gz, hgz⟩ : ∃ q, q = gotV noF (x : Int) nilS := ⟨_, rfl⟩
    rw [← hgz] at HGZ HG35 ⊢
    clear hgz
    go_wp2_with (first | (with_reducible refine wpl_alloc (o := ⟨some 9, _, _, _, _, _⟩) rfl rfl zero_got ?_))
    intro w2_ hb2_ hb_ hsz2_
    have HX_ := kp (at_mk hb2_ len_got)
    clear hb2_ hsz2_
    have HG_ := kp HB.out.size
    have HG_HV := kp (Nat.ne_of_lt HV.out.lt)
    replace HB := kp (HB.out.grow' hb_)
    replace HV := kp (HV.out.grow hb_)
    generalize hg_ : w_.heap.size = g9 at HX_ HG_ HG_HV ⊢
    clear hg_
    have HG_g := HG_
    clear HG_
    have HG := HX_
    clear hb_ HX_
    try clear w_
    rename World => w_
    go_wp2_with (first | (with_reducible refine wpl_storeb (o := ⟨none, .store _ _ _, _, _, _, _⟩) rfl rfl row_got HG.out.blk rfl rfl HG.out.len HGZ.out.len HGZ.out.one ?_))
    intro w2_ hb2_ hg2_ hsz2_
    replace HB := kp (put_below HB.out HG_g.out hg2_)
    replace HG := kp (at_mk hb2_ HGZ.out.len)
    replace HV := kp (At.off HV.out hg2_ HG_HV.out)
    clear hb2_ hg2_ hsz2_
    try clear w_
    rename World => w_
    have c35 := HG.out.blk.at_ HG35.out
    have d0 : ((x : Int) != 0) = true := by simp; exact HXN.out
    try go_wp2_with fail
    repeat' (first | (with_reducible refine wp_plan (id := 12) (fun a b => a.grownBy b (some g2)) [0,0,1,4,0] (.get 0 (.get 1 (.get 2 (.act 3 (.get 4 .done))))) (by kernel_rfl) (by kernel_rfl) (fun a => grownBy_refl a _) (fun _ _ _ h k => grownBy_trans h k) ?_) | go_values | go_skip | go_guarded | go_step | go_upon | go_back)
    intro w_ hd_
    have hb_ := hd_.grow
    replace HB := kp (HB.out.grow' hb_)
    replace HV := kp (HV.out.grow hb_)
    replace HG := kp (HG.out.grow hb_)
    clear hb_ hd_
    refine pl_calm rfl rfl (by exact wanted_none rfl) (fun w_ => by exact exec_build rfl T0.out w_) (fun K hK => ?_)
    go_simp
    refine hK _ _ ?_
    clear hK K
    repeat ((first | refine pl_calm rfl rfl (by first | exact wanted_none rfl | (go_simp; done) | rfl) (fun w_ => by first | (go_simp; rfl) | (go_simp; done) | rfl) (fun K hK => ?_) | refine pl_skip rfl (by first | (go_simp; done) | rfl) (fun K hK => ?_) | refine pl_skipa rfl (by first | (go_simp; done) | rfl) (fun K hK => ?_)); go_simp; refine hK _ _ ?_; clear hK K)
    refine pl_read rfl rfl (by exact wanted_none rfl) (v := .int .i64 (x : Int)) (fun w3_ hf_ => by have c9 := (HG.out.blk.grown hf_ (fun e => HG_HV.out (Option.some.inj e).symm)).at_ HG35.out; first | (go_simp; rfl) | (go_simp; done)) (fun K hK => ?_)
    go_simp
    refine hK _ _ ?_
    clear hK K
    refine pl_act rfl (by exact wanted_none rfl) (fun K hK => ?_)
    show wpList _ _ _ [⟨none, .store _ _ _, _, _, _, _⟩] _ _
    go_wp2_with (first | (with_reducible refine wpl_storeb (o := ⟨none, .store _ _ _, _, _, _, _⟩) rfl rfl row_entry HV.out.blk rfl rfl HV.out.len HCZ.out.len HCZ.out.one ?_))
    intro w2_ hb2_ hg2_ hsz2_
    go_wp2_with fail
    refine hK _ _ (fun _ => hg2_) ?_
    clear hK K
    replace HB := kp (put_below HB.out HV_g.out hg2_)
    replace HV := kp (at_mk hb2_ HCZ.out.len)
    clear hb2_ hg2_ hsz2_
    repeat ((first | refine pl_calm rfl rfl (by first | exact wanted_none rfl | (go_simp; done) | rfl) (fun w_ => by first | (go_simp; rfl) | (go_simp; done) | rfl) (fun K hK => ?_) | refine pl_skip rfl (by first | (go_simp; done) | rfl) (fun K hK => ?_) | refine pl_skipa rfl (by first | (go_simp; done) | rfl) (fun K hK => ?_)); go_simp; refine hK _ _ ?_; clear hK K)
    refine pl_done ?_
    go_wp2_with fail
    refine ret_cell_tmp rfl row_entry HV.out.blk rfl HV.out.len rfl rfl ?_
    exact ⟨by rw [(HRE.out x HX.out).1, (HRE.out x HX.out).2]; rfl, HB.out⟩
   ·skip
    have HLN := kp (show lfE 6 (vs ++ [v]) dd t = rs by have h := HLK_.out; rw [hx] at h; rw [lfE]; exact h; all_goals omega)
    have HTL := kp (show t.length ≤ l.length from Nat.le_trans (numR_le hx).2.2 HLL.out)
    have HVM := kp (numR_le hx).1
    have HGC := kp (show Cl 37 (gotV f 0 (.slice A2 t.length c2)) from gotV_cl hcl rfl)
    have HG35 := kp (show (gotV f 0 (.slice A2 t.length c2))[35]? = some (.int .i64 0) from (gotV_at hcl).1)
    have HG36 := kp (show (gotV f 0 (.slice A2 t.length c2))[36]? = some (.slice A2 t.length c2) from (gotV_at hcl).2.1)
    have HG1 := kp (show (gotV f 0 (.slice A2 t.length c2))[1]? = some (.int .u64 ((v : Nat) : Int)) from (gotV_at hcl).2.2 _ _ (by rw [show f = _ from hfv]; rfl))
    have HS2 := kp (show Sl w w.heap.size 1 A2 t.length (t.map B) from hs2.back (HB.out.grow' hb_))
    have HC2 := kp hc2
    obtain ⟨tl, htl⟩ : ∃ q, q = t.length := ⟨_, rfl⟩
    obtain ⟨gv, hgv⟩ : ∃ q, q = gotV f 0 (.slice A2 t.length c2) := ⟨_, rfl⟩
    rw [← hgv] at HGC HG35 HG36 HG1 ⊢
    rw [← htl] at HG36
    have HTE := kp htl
    clear hr_ hx hcl hfv hs2 hc2 hgv htl HF HSL HLK_ HLC
    replace HV := kp (HV.out.grow hb_)
    replace HD := kp (HD.out.grow hb_)
    replace HM := kp (HM.out.grow hb_)
    replace HO := kp (HO.out.grow hb_)
    replace HB := kp (HB.out.grow' hb_)
    clear hb_
    try clear w_
    rename World => w_
    go_wp2_with (first | (with_reducible refine wpl_alloc (o := ⟨some 9, _, _, _, _, _⟩) rfl rfl zero_got ?_))
    intro w2_ hb2_ hb_ hsz2_
    have HX_ := kp (at_mk hb2_ len_got)
    clear hb2_ hsz2_
    have HG_ := kp HB.out.size
    have HG_HV := kp (Nat.ne_of_lt HV.out.lt)
    have HG_HD := kp (Nat.ne_of_lt HD.out.lt)
    have HG_HM := kp (Nat.ne_of_lt HM.out.lt)
    replace HB := kp (HB.out.grow' hb_)
    replace HV := kp (HV.out.grow hb_)
    replace HD := kp (HD.out.grow hb_)
    replace HM := kp (HM.out.grow hb_)
    replace HO := kp (HO.out.grow hb_)
    generalize hg_ : w_.heap.size = g9 at HX_ HG_ HG_HV HG_HD HG_HM ⊢
    clear hg_
    have HG_g := HG_
    clear HG_
    have HG := HX_
    clear hb_ HX_
    try clear w_
    rename World => w_
    go_wp2_with (first | (with_reducible refine wpl_storeb (o := ⟨none, .store _ _ _, _, _, _, _⟩) rfl rfl row_got HG.out.blk rfl rfl HG.out.len HGC.out.len HGC.out.one ?_))
    intro w2_ hb2_ hg2_ hsz2_
    replace HB := kp (put_below HB.out HG_g.out hg2_)
    replace HV := kp (At.off HV.out hg2_ HG_HV.out)
    replace HD := kp (At.off HD.out hg2_ HG_HD.out)
    replace HM := kp (At.off HM.out hg2_ HG_HM.out)
    replace HO := kp (HO.out.kept HG.out.blk (by decide) hg2_)
    replace HG := kp (at_mk hb2_ HGC.out.len)
    clear hb2_ hg2_ hsz2_
    try clear w_
    rename World => w_
    have c35 := HG.out.blk.at_ HG35.out
    have c36 := HG.out.blk.at_ HG36.out
    have c1 := HG.out.blk.at_ HG1.out
    have HOR := kp (show w_.ownsRow (gd + 1) 25 1 (.slice Av 5 cv) 5 (numsV vs) from HO.out)
    have HDZ := kp (show gd + 1 ≤ w_.heap.size by have := HD.out.lt; omega)
    go_wp2_with (first | (at_builtin; refine wpl_app1 rfl rfl el_u64s HOR.out rfl (m := 1) rfl ?_ ?_ ?_ ?_ ?_ ?_))
    ·rfl
    ·rfl
    ·omega
    ·omega
    ·exact HDZ.out
    intro A4 c4 w4_ ho_ hg_ hA_
    have hne_ := own_from HOR.out
    replace HV := kp (show At w4_ g2 27 37 (entV noEnt) from at_mk (HV.out.blk.grown hg_ (fun e => own_ne HOR.out HV.out.blk (by decide) _ e.symm rfl)) HV.out.len)
    replace HD := kp (show At w4_ gd 24 32 (dd.map B) from at_mk (HD.out.blk.grown hg_ (fun e => own_ne HOR.out HD.out.blk (by decide) _ e.symm rfl)) HD.out.len)
    replace HM := kp (show At w4_ gm 25 6 _ from at_mk (HM.out.blk.grown hg_ (fun e => by have h1 := hne_ _ e.symm; have := HMLT.out; omega)) HM.out.len)
    replace HG := kp (show At w4_ g9 75 37 gv from at_mk (HG.out.blk.grown hg_ (fun e => own_ne HOR.out HG.out.blk (by decide) _ e.symm rfl)) HG.out.len)
    replace HO := kp (show OwnN w4_ (gd + 1) A4 6 c4 (vs ++ [v]) by unfold OwnN numsV; rw [List.map_append]; exact ho_)
    replace HB := kp (below_grown HB.out hg_ HB.out.size (fun q hq => by have h1 := hne_ q hq; have := HDG.out; omega))
    clear ho_ hg_ hA_ hne_ HOR HDZ c35 c36 c1
    try clear w_
    rename World => w_
    have HVN := kp (show (vs ++ [v]).length = 6 by rw [List.length_append, HVL.out]; rfl)
    have HVBN := kp (show ∀ u ∈ vs ++ [v], u ≤ 4611686018427387904 from fun u hu => by rcases List.mem_append.1 hu with hu | hu; exact HVB.out u hu; rw [List.mem_singleton.1 hu]; exact (by have h1 := HVM.out; omega))
    go_wp2_with fail
    go_roundw
    case rel => exact ⟨6, A2, c2, t, A4, c4, vs ++ [v], dd, by omega, rfl, by rw [HTE.out], rfl, kp ⟨HLN.out, HVN.out, HVBN.out, HDL.out, HTL.out, HC2.out, HS2.out, HV.out, HD.out, HM.out, HO.out, HB.out⟩⟩
    case measure => simp [intOf]
  ·skip
   obtain ⟨v0, v1, v2, v3, v4, v5, hvs⟩ : ∃ v0 v1 v2 v3 v4 v5, vs = [v0, v1, v2, v3, v4, v5] := by
    have h := HVL.out
    match vs, h with
    | [a, b, c, d, e, f], _ => exact ⟨a, b, c, d, e, f, rfl⟩
   subst hvs
   have HLL5 := kp (show lookE l = .ok (entOfV [v0, v1, v2, v3, v4, v5] dd, li) by have h := HLI.out; rw [lfE] at h; rw [HLK.out, ← h]; all_goals omega)
   obtain ⟨gq, hgq, _, hgq2, _⟩ := own_form HO.out (by omega)
   subst hgq
   have HSO := kp (Sl.of_own HO.out)
   have hcell : ∀ j u, (numsV [v0, v1, v2, v3, v4, v5])[j]? = some u → w_.cell? ⟨gq, j, none⟩ = some u := fun j u hu => by
    obtain ⟨b, off, e1, _, h2⟩ := HSO.out.2 (by omega)
    injection e1 with e1
    injection e1 with e1 e2
    subst e1; subst e2
    have := h2 j u hu
    simpa using this
   have k0 := kp (show KeepC w_ ⟨gq, 0, none⟩ (.int .u64 (v0 : Int)) from hcell 0 _ rfl); have k1 := kp (show KeepC w_ ⟨gq, 1, none⟩ (.int .u64 (v1 : Int)) from hcell 1 _ rfl); have k3 := kp (show KeepC w_ ⟨gq, 3, none⟩ (.int .u64 (v3 : Int)) from hcell 3 _ rfl); have k4 := kp (show KeepC w_ ⟨gq, 4, none⟩ (.int .u64 (v4 : Int)) from hcell 4 _ rfl); have k5 := kp (show KeepC w_ ⟨gq, 5, none⟩ (.int .u64 (v5 : Int)) from hcell 5 _ rfl)
   have b0 := HVB.out v0 (by simp); have b1 := HVB.out v1 (by simp); have b4 := HVB.out v4 (by simp); have b5 := HVB.out v5 (by simp)
   have HDD := kp (dig_map HDL.out)
   have HENT := kp (show entOfV [v0, v1, v2, v3, v4, v5] dd = ⟨(v0 : Int), (v1 : Int), dd, (v3 : Int), (v4 : Int), (v5 : Int)⟩ from rfl)
   have BT6 := kp (bt_ent6 (k := (v0 : Int)) (s := (v1 : Int)) (y := (v4 : Int)) (p := (v5 : Int)) (a := (v3 : Int)) HDL.out)
   have HEO := kp (show (⟨(v0 : Int), (v1 : Int), dd, (v3 : Int), (v4 : Int), (v5 : Int)⟩ : Ent).ok from (lookE_ok (HENT.out ▸ HLL5.out)).1)
   have HEC := kp (ent_cl HEO.out)
   obtain ⟨ev, hev⟩ : ∃ q, q = entV ⟨(v0 : Int), (v1 : Int), dd, (v3 : Int), (v4 : Int), (v5 : Int)⟩ := ⟨_, rfl⟩
   have HEV := kp hev
   rw [← hev] at BT6 HEC
   obtain ⟨dv, hdv⟩ : ∃ q, q = dd.map B := ⟨_, rfl⟩
   rw [← hdv] at BT6 HD HDD
   obtain ⟨p2, hp2⟩ : ∃ p, ((v0 : Int) == 0) = p := ⟨_, rfl⟩
   have HP1 := kp (show nl = 0 ↔ li = [] by
    rw [HNL.out]
    cases li with
    | nil => simp
    | cons a li => simp)
   have HP2 := kp (show (p2 = true) ↔ (v0 : Int) = 0 by rw [← hp2, beq_iff_eq])
   have Q0 := kp (show IntKind.i64.wrap (v0 : Int) = (v0 : Int) from IntWalk.i64_in _ (by omega)); have Q1 := kp (show IntKind.i64.wrap (v1 : Int) = (v1 : Int) from IntWalk.i64_in _ (by omega)); have Q4 := kp (show IntKind.i64.wrap (v4 : Int) = (v4 : Int) from IntWalk.i64_in _ (by omega)); have Q5 := kp (show IntKind.i64.wrap (v5 : Int) = (v5 : Int) from IntWalk.i64_in _ (by omega))
   clear hi6 hcell hev hdv b0 b1 b4 b5 HM HO hgq2
   have c0 : w_.cell? ⟨gq, 0, none⟩ = some (.int .u64 (v0 : Int)) := k0.out
   by_cases hn0 : nl = 0
   ·have HNI := kp (HP1.out.1 hn0)
    subst hn0
    cases p2 with
    | true =>
     go_wp2_with (first | (with_reducible refine wpl_stop (o := ⟨some 54, _, _, _, _, _⟩) ?_))
     refine stop_go ?_
     refine wpl_build rfl rfl T0.out ?_
     go_wp2_with (first | (with_reducible refine wpl_storeb (o := ⟨none, .store _ _ _, _, _, _, _⟩) rfl rfl row_entry HV.out.blk rfl rfl HV.out.len HCZ.out.len HCZ.out.one ?_))
     intro w2_ hb2_ hg2_ hsz2_
     have HV_ := kp hb2_
     have HB_ := kp (put_below HB.out HV_g.out hg2_)
     clear hb2_ hg2_ hsz2_
     go_wp2_with fail
     refine ret_cell_tmp rfl row_entry HV_.out rfl HCZ.out.len rfl rfl ?_
     exact ⟨by rw [(HRN.out _ li HLL5.out (.inr (HP2.out.1 (by simp)))).1, (HRN.out _ li HLL5.out (.inr (HP2.out.1 (by simp)))).2]; rfl, HB_.out⟩
    | false =>
     have HNE := kp (show (entOfV [v0, v1, v2, v3, v4, v5] dd).kind ≠ 0 from fun h => by have := HP2.out.2 h; simp at this)
     have HYE := kp (HRY.out _ (by rw [HLL5.out, HNI.out]) HNE.out)
     try go_wp2_with fail
     repeat' (first | (with_reducible refine wp_plan (id := 19) Grow [0,0,2,0,0,0,2,0,2,0,0,2,0,0,2,0,0,0,2,0,0,3,0] (.get 0 (.get 1 (.get 2 (.get 3 (.get 4 (.get 5 (.get 6 (.get 7 (.get 8 (.get 9 (.get 10 (.get 11 (.get 12 (.get 13 (.get 14 (.get 15 (.get 16 (.get 17 (.get 18 (.get 19 (.get 20 (.act 21 (.get 22 .done))))))))))))))))))))))) (by kernel_rfl) (by kernel_rfl) Grow.refl Grow.trans ?_) | go_values | go_skip | go_guarded | go_step | go_upon | go_back)
     intro w_ hd_
     have hb_ := hd_.grow
     replace HB := kp (HB.out.grow' hb_)
     replace HV := kp (HV.out.grow hb_)
     replace HD := kp (HD.out.grow hb_)
     replace k0 := kp (k0.out.grow hb_)
     replace k1 := kp (k1.out.grow hb_)
     replace k3 := kp (k3.out.grow hb_)
     replace k4 := kp (k4.out.grow hb_)
     replace k5 := kp (k5.out.grow hb_)
     clear hb_ hd_
     have q0 := Q0.out; have q1 := Q1.out; have q4 := Q4.out; have q5 := Q5.out
     iterate 20 (first | (refine pl_calm rfl rfl (by first | exact wanted_none rfl | (go_simp; done) | rfl) (fun w_ => by first | (go_simp; rfl) | (go_simp; done) | rfl) (fun K hK => ?_); go_simp; refine hK _ _ ?_; clear hK K) | (refine pl_skip rfl (by first | (go_simp; done) | rfl) (fun K hK => ?_); go_simp; refine hK _ _ ?_; clear hK K) | (refine pl_skipa rfl (by first | (go_simp; done) | rfl) (fun K hK => ?_); go_simp; refine hK _ _ ?_; clear hK K) | (refine pl_load rfl rfl (by first | exact wanted_none rfl | (go_simp; done) | rfl) rfl (by first | rfl | (go_simp; rfl)) (by kernel_rfl) (by first | exact k0.out | exact k1.out | exact k3.out | exact k4.out | exact k5.out) (fun K hK => ?_); go_simp; refine hK _ _ ?_; clear hK K) | (refine pl_loadnow rfl rfl (by first | exact wanted_none rfl | (go_simp; done) | rfl) rfl (by first | rfl | (go_simp; rfl)) (by kernel_rfl) (by first | exact k0.out | exact k1.out | exact k3.out | exact k4.out | exact k5.out) (fun K hK => ?_); go_simp; refine hK _ _ ?_; clear hK K) | (refine pl_loadb rfl rfl (by first | exact wanted_none rfl | (go_simp; done) | rfl) rfl row_id HD.out.blk (by first | rfl | (go_simp; done) | rfl) HD.out.len (fun K hK => ?_); go_simp; refine hK _ _ ?_; clear hK K) | (refine pl_loadbnow rfl rfl (by first | exact wanted_none rfl | (go_simp; done) | rfl) rfl row_id HD.out.blk (by first | rfl | (go_simp; done) | rfl) HD.out.len (fun K hK => ?_); go_simp; refine hK _ _ ?_; clear hK K))
     refine pl_calm rfl rfl (by exact wanted_none rfl) (fun w_ => by exact exec_build rfl BT6.out w_) (fun K hK => ?_)
     go_simp
     refine hK _ _ ?_
     clear hK K
     refine pl_act rfl (by exact wanted_none rfl) (fun K hK => ?_)
     show wpList _ _ _ [⟨none, .store _ _ _, _, _, _, _⟩] _ _
     go_wp2_with (first | (with_reducible refine wpl_storeb (o := ⟨none, .store _ _ _, _, _, _, _⟩) rfl rfl row_entry HV.out.blk rfl rfl HV.out.len HEC.out.len HEC.out.one ?_))
     intro w2_ hb2_ hg2_ hsz2_
     go_wp2_with fail
     refine hK _ _ (fun h => by cases h) ?_
     clear hK K
     have HB_ := kp (put_below HB.out HV_g.out hg2_)
     have HV_ := kp (at_mk hb2_ HEC.out.len)
     clear hb2_ hg2_ hsz2_ q0 q1 q4 q5
     repeat ((first | refine pl_calm rfl rfl (by first | exact wanted_none rfl | (go_simp; done) | rfl) (fun w_ => by first | (go_simp; rfl) | (go_simp; done) | rfl) (fun K hK => ?_) | refine pl_skip rfl (by first | (go_simp; done) | rfl) (fun K hK => ?_) | refine pl_skipa rfl (by first | (go_simp; done) | rfl) (fun K hK => ?_)); go_simp; refine hK _ _ ?_; clear hK K)
     refine pl_done ?_
     go_wp2_with fail
     refine ret_cell_tmp rfl row_entry HV_.out.blk rfl HV_.out.len rfl rfl ?_
     exact ⟨by rw [HYE.out.1, HYE.out.2, HENT.out, HEV.out]; rfl, HB_.out⟩
   ·have d0 : decide ((0 : Int) < (nl : Int)) = true := by simp; omega
    go_wp2_with (first | (with_reducible refine wpl_stop (o := ⟨some 54, _, _, _, _, _⟩) ?_))
    refine stop_go ?_
    refine wpl_build rfl rfl T0.out ?_
    go_wp2_with (first | (with_reducible refine wpl_storeb (o := ⟨none, .store _ _ _, _, _, _, _⟩) rfl rfl row_entry HV.out.blk rfl rfl HV.out.len HCZ.out.len HCZ.out.one ?_))
    intro w2_ hb2_ hg2_ hsz2_
    have HV_ := kp hb2_
    have HB_ := kp (put_below HB.out HV_g.out hg2_)
    clear hb2_ hg2_ hsz2_
    go_wp2_with fail
    refine ret_cell_tmp rfl row_entry HV_.out rfl HCZ.out.len rfl rfl ?_
    exact ⟨by rw [(HRN.out _ li HLL5.out (.inl (fun h => hn0 (HP1.out.2 h)))).1, (HRN.out _ li HLL5.out (.inl (fun h => hn0 (HP1.out.2 h)))).2]; rfl, HB_.out⟩
end Go.Proofs.YtphmefhnffoafaaGreatDoor

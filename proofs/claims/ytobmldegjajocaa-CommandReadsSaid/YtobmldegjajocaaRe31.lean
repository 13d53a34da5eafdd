/- A command written is read back (plain). No program in sight. -/
import Derived.Test.YtobmldegjajocaaRe30
import Derived.Test.YtobmldegjajocaaRe29
set_option linter.unusedSimpArgs false
set_option linter.unusedVariables false
set_option maxRecDepth 100000
set_option maxHeartbeats 16000000
namespace Go.Proofs.Ytobmldegjajocaa
open Go.RowKit
theorem readC_put {c : Cer} (hk : c.ok) (hb : badCert c = false) : readC (putCB c) = .ok c := by
 unfold badCert at hb;simp only [Bool.or_eq_false_iff, Bool.not_eq_false', decide_eq_false_iff_not] at hb;obtain ⟨⟨h1, h2⟩, h3⟩ := hb;have hp : c.path.length ≤ 32 := by omega
 have l1 := eformB_le hk.1; have l2 := hformB_le hk.2.2.1;have e : putCB c = numB (eformB c.e).length ++ (eformB c.e ++ (numB c.path.length ++ (c.path.flatten ++ (numB (hformB c.h).length ++ (hformB c.h ++ c.tag))))) := by unfold putCB; simp only [List.append_assoc]
 have h5 := takeR_len (t := ([] : List UInt8)) hk.2.2.2;rw [List.append_nil] at h5;have e1 : eformB c.e = putEB c.e := by unfold eformB; rw [if_pos h1]
 have e2 : hformB c.h = putHB c.h := by unfold hformB; rw [if_pos h2]
 unfold readC lookCe;rw [e, textR_put (by omega) (by omega)];simp only;rw [numR_put (n := c.path.length) hp (by omega)];simp only;rw [idsR_put _ _ hk.2.1];simp only;rw [textR_put (by omega) (by omega)];simp only;rw [h5];simp only [ne_eq, not_true_eq_false, if_false];unfold readW;simp only;rw [e1, readE_put hk.1 h1, e2, readH_put hk.2.2.1 h2]
theorem readCs_put : ∀ (cs : List Cer), (∀ c ∈ cs, c.ok ∧ badCert c = false) → readCs (cs.map putCB) = .ok cs
 | [], _ => rfl
 | c :: cs, h => by
  rw [List.map_cons];unfold readCs;rw [readC_put (h c (by simp)).1 (h c (by simp)).2, readCs_put cs (fun x hx => h x (by simp [hx]))]
theorem lookTexts (cs : List Cer) (h : ∀ c ∈ cs, c.ok ∧ badCert c = false) (t : List UInt8) : lookN (textR 2048) cs.length (cs.flatMap certText ++ t) = .ok (cs.map putCB, t) := by
 induction cs generalizing t with
 | nil => rfl
 | cons c cs ih =>
  have hc := h c (by simp);have hl : (putCB c).length ≤ 2000 := putCB_leC hc.1 (by have := hc.2; unfold badCert at this; simp at this; omega);rw [List.length_cons, List.flatMap_cons];unfold lookN;have e : certText c ++ cs.flatMap certText ++ t = numB (putCB c).length ++ (putCB c ++ (cs.flatMap certText ++ t)) := by unfold certText; simp only [List.append_assoc]
  rw [e, textR_put (by omega) (by omega)];simp only;rw [ih (fun x hx => h x (by simp [hx]))]
  rfl
theorem lookCm_put {m : Cmd} (hk : m.ok) (h : checkC m = 0) : lookCm (putCm m) = .ok (⟨{ m with tx := noTxn, certs := [] }, if hasTxK m.kind then putTB m.tx else [], if hasCK m.kind then m.certs.map putCB else []⟩, []) := by
 obtain ⟨⟨hk1, hk9⟩, ⟨hs0, hs1, ha, he0, he1⟩, hn, hct, hb, hcs, hw⟩ := checkC_zero h;obtain ⟨_, u2, u3, u4, u5, u6, u7⟩ := cmd_ext.1 ((used_iff m).2 hw);obtain ⟨o1, o2, o3, o4, o5, o6, o7⟩ := hk;obtain ⟨k, tx, certs, dest, se, ep, id⟩ := m;simp only [usedC] at *;obtain ⟨kn, rfl⟩ : ∃ n : Nat, k = (n : Int) := ⟨k.toNat, by omega⟩;have hkn : kn ≤ 9 := by omega
 by_cases k1 : kn = 1
 ·subst k1;simp only [show ((1 : Nat) : Int) = 1 from rfl, if_true] at *;have e7 : ¬ ((1 : Int) = 7) := by omega
  have e9 : ¬ ((1 : Int) = 9) := by omega
  rw [if_neg e7] at u6; rw [if_neg e9] at u7;rw [show hasTxK 1 = false from rfl] at u2 ⊢; rw [show hasCK 1 = false from rfl] at u3 ⊢;simp only [Bool.false_eq_true, if_false] at u2 u3 ⊢;have ho : dest.owner.length = 32 := o4.1;have ha0 : 0 ≤ dest.amount := o4.2.1
  have e : putCm ⟨1, tx, certs, dest, se, ep, id⟩ = numB 1 ++ (numB se.toNat ++ (dest.owner ++ (numB dest.amount.toNat ++ []))) := by
   unfold putCm txPart certPart hasTxK hasCK; simp
  rw [e];unfold lookCm;rw [numR_put (by omega) (by omega)];simp only;rw [if_neg (by omega)];simp only [if_true];rw [numR_put (by omega) (by omega)];simp only;rw [takeR_len ho];simp only;rw [numR_put (by omega) (by omega)];simp only [Int.toNat_of_nonneg hs0, Int.toNat_of_nonneg ha0];rw [u6, u7]
  rfl
 by_cases k23 : kn = 2 ∨ kn = 3
 ·have h1 : hasTxK (kn : Int) = true := by unfold hasTxK; simp; omega
  have h2 : hasCK (kn : Int) = false := by unfold hasCK; simp; omega
  have i1 : ¬ ((kn : Int) = 1) := by omega
  have i7 : ¬ ((kn : Int) = 7) := by omega
  have i9 : ¬ ((kn : Int) = 9) := by omega
  rw [if_neg i1] at u4 u5; rw [if_neg i7] at u6; rw [if_neg i9] at u7;rw [h2] at u3;simp only [Bool.false_eq_true, if_false] at u3;have hl := putTB_le o2 (hct h1)
  have e : putCm ⟨kn, tx, certs, dest, se, ep, id⟩ = numB kn ++ (numB (putTB tx).length ++ (putTB tx ++ [])) := by
   unfold putCm txPart certPart; simp [h1, h2, i1, i7, i9]
  rw [e];unfold lookCm;rw [numR_put (by omega) (by omega)];simp only;rw [if_neg (by omega), if_neg k1, if_pos k23, textR_put (by omega) (by omega)];simp only [h1, h2, if_true, Bool.false_eq_true, if_false];rw [u4, u5, u6, u7]
  rfl
 by_cases k46 : kn = 4 ∨ kn = 5 ∨ kn = 6
 ·have h1 : hasTxK (kn : Int) = true := by unfold hasTxK; simp; omega
  have h2 : hasCK (kn : Int) = true := by unfold hasCK; simp; omega
  have i1 : ¬ ((kn : Int) = 1) := by omega
  have i7 : ¬ ((kn : Int) = 7) := by omega
  have i9 : ¬ ((kn : Int) = 9) := by omega
  rw [if_neg i1] at u4 u5; rw [if_neg i7] at u6; rw [if_neg i9] at u7;have hl := putTB_le o2 (hct h1)
  have e : putCm ⟨kn, tx, certs, dest, se, ep, id⟩ = numB kn ++ (numB (putTB tx).length ++ (putTB tx ++ (numB certs.length ++ (certs.flatMap certText ++ [])))) := by
   unfold putCm txPart certPart; simp [h1, h2, i1, i7, i9]
  rw [e];unfold lookCm;rw [numR_put (by omega) (by omega)];simp only;rw [if_neg (by omega), if_neg k1, if_neg k23, if_pos k46, textR_put (by omega) (by omega)];simp only;rw [numR_put (by omega) (by omega)];simp only;rw [lookTexts certs (fun c hc => ⟨o3 c hc, hb c hc⟩)];simp only [h1, h2, if_true];rw [u4, u5, u6, u7]
  rfl
 have h1 : hasTxK (kn : Int) = false := by unfold hasTxK; simp; omega
 have h2 : hasCK (kn : Int) = false := by unfold hasCK; simp; omega
 have i1 : ¬ ((kn : Int) = 1) := by omega
 rw [if_neg i1] at u4 u5;by_cases k7 : kn = 7
 ·subst k7;have i9 : ¬ (((7 : Nat) : Int) = 9) := by omega
  rw [if_neg i9] at u7
  have e : putCm ⟨((7 : Nat) : Int), tx, certs, dest, se, ep, id⟩ = numB 7 ++ (numB ep.toNat ++ []) := by
   unfold putCm txPart certPart hasTxK hasCK; simp
  rw [e];unfold lookCm;rw [numR_put (by omega) (by omega)];simp only;rw [if_neg (by omega), if_neg k1, if_neg k23, if_neg k46];simp only [if_true];rw [numR_put (by omega) (by omega)];simp only [h1, h2, Bool.false_eq_true, if_false, Int.toNat_of_nonneg he0];rw [u4, u5, u7]
  rfl
 have i7 : ¬ ((kn : Int) = 7) := by omega
 rw [if_neg i7] at u6;by_cases k9 : kn = 9
 ·subst k9
  have e : putCm ⟨((9 : Nat) : Int), tx, certs, dest, se, ep, id⟩ = numB 9 ++ (id ++ []) := by
   unfold putCm txPart certPart hasTxK hasCK; simp
  rw [e];unfold lookCm;rw [numR_put (by omega) (by omega)];simp only;rw [if_neg (by omega), if_neg k1, if_neg k23, if_neg k46, if_neg k7];simp only [if_true];rw [takeR_len o7];simp only [h1, h2, Bool.false_eq_true, if_false];rw [u4, u5, u6]
  rfl
 have i9 : ¬ ((kn : Int) = 9) := by omega
 rw [if_neg i9] at u7
 have e : putCm ⟨kn, tx, certs, dest, se, ep, id⟩ = numB kn ++ [] := by
  unfold putCm txPart certPart; simp [h1, h2, i1, i7, i9]
 rw [e];unfold lookCm;rw [numR_put (by omega) (by omega)];simp only;rw [if_neg (by omega), if_neg k1, if_neg k23, if_neg k46, if_neg k7, if_neg k9];simp only [h1, h2, Bool.false_eq_true, if_false];rw [u4, u5, u6, u7]
 rfl
theorem readCm_put {m : Cmd} (hk : m.ok) (h : checkC m = 0) (hl : (putCm m).length ≤ 8192) : readCm (putCm m) = .ok m := by
 obtain ⟨⟨hk1, hk9⟩, hs, hn, hct, hb, hcs, hw⟩ := checkC_zero h;obtain ⟨_, u2, u3, _, _, _, _⟩ := cmd_ext.1 ((used_iff m).2 hw);unfold readCm;rw [if_neg (by omega), lookCm_put hk h];simp only [ne_eq, not_true_eq_false, if_false];unfold fillC;simp only
 have e1 : (if hasTxK m.kind = true then readT (if hasTxK m.kind = true then putTB m.tx else []) else Except.ok noTxn) = Except.ok m.tx := by
  cases ht : hasTxK m.kind with
  | true => simp only [if_true]; exact readT_put hk.2.1 (hct ht)
  | false =>
   simp only [usedC, ht, Bool.false_eq_true, if_false] at u2;simp [u2]
 have e2 : readCs (if hasCK m.kind = true then m.certs.map putCB else []) = .ok m.certs := by
  cases hc : hasCK m.kind with
  | true => simp only [if_true]; exact readCs_put _ (fun c h => ⟨hk.2.2.1 c h, hb c h⟩)
  | false =>
   rw [hcs hc]; rfl
 rw [e1];simp only;rw [e2]
theorem bytesq_any {res : Bool} {A A2 : Option Addr} {n c n2 c2 : Nat} {xs ys : List UInt8} (hres : decide (xs = ys) = res) (w : World) (h1 : Sl w w.heap.size 1 A n (xs.map B)) (h2 : Sl w w.heap.size 1 A2 n2 (ys.map B)) (hn : n ≤ 1000000) :
  Calls Try.prog 11 #[.slice A n c, .slice A2 n2 c2] w fun e w' => e = .returned (.bool res) ∧ Below w.heap.size w w' := by
 have H1 := kp h1; have H2 := kp h2;have HL1 := kq (xs.length = n) (by have := h1.len; simpa using this);have HL2 := kq (ys.length = n2) (by have := h2.len; simpa using this);have HRES := kp hres;clear h1 h2 hres;by_cases hnn : n = n2
 ·subst hnn;have z1 : ((n : Int) != (n : Int)) = false := by simp
  go_enter Try.func11, Try.ntmps11
  go_wp2_with fail;go_loopw [5] (fun i wr => ∃ k : Nat, k ≤ n ∧ i = .int .i64 k ∧ Hid (xs.take k = ys.take k) ∧ Hid (Below w.heap.size w wr)) (fun i _ => n - (intOf i).toNat)
  case atStart => exact ⟨0, by omega, rfl, kp (by simp), kp (Below.refl _ _)⟩
  case round =>
   obtain ⟨k, hk, rfl, heq, hbw⟩ := hrel;by_cases hlt : k < n
   ·have HB := hbw;have H1A := kp ((H1.o.below HB.o).more HB.o.size);have H2A := kp ((H2.o.below HB.o).more HB.o.size);obtain ⟨x, hx⟩ : ∃ x, xs[k]? = some x := ⟨_, List.getElem?_eq_getElem (by rw [HL1.o]; exact hlt)⟩;obtain ⟨y, hy⟩ : ∃ y, ys[k]? = some y := ⟨_, List.getElem?_eq_getElem (by rw [HL2.o]; exact hlt)⟩;have HX := kp hx; have HY := kp hy;clear hx hy;by_cases hxy : x = y
    ·subst hxy;try go_wp2_with fail
     repeat' (first | (with_reducible refine wpp (id := 6) Grow [0,0,0,2,0,0,0,2,0] (.get 0 (.get 1 (.get 2 (.get 3 (.get 4 (.get 5 (.get 6 (.get 7 (.get 8 .done))))))))) Grow.refl Grow.trans ?_) | go_values | go_skip | go_guarded | go_step | go_upon | go_back)
     intro w_ hd_;have y_ := hd_.grow;replace HB := kp (HB.o.grow' y_);replace H1A := kp (H1A.o.grow y_);replace H2A := kp (H2A.o.grow y_);clear y_ hd_;obtain ⟨b1, o1, u1, rfl, hb1, hu1, hc1⟩ := H1A.o.at_ hlt;obtain ⟨b2, o2, u2, rfl, hb2, hu2, hc2⟩ := H2A.o.at_ hlt;obtain rfl : u1 = .int .u8 (b8 x) := by rw [List.getElem?_map, HX.o] at hu1; exact (Option.some.inj hu1).symm
     obtain rfl : u2 = .int .u8 (b8 x) := by rw [List.getElem?_map, HY.o] at hu2; exact (Option.some.inj hu2).symm
     clear hb1 hb2 hu1 hu2;repeat (first | (refine plc (fun K hK => ?_); go_simp; refine hK _ _ ?_; clear hK K) | (refine pls (fun K hK => ?_); go_simp; refine hK _ _ ?_; clear hK K) | (refine psa (fun K hK => ?_); go_simp; refine hK _ _ ?_; clear hK K) | (refine pl_load rfl rfl (by first | exact wanted_none rfl | (go_simp; done) | rfl) rfl (by first | rfl | (go_simp; rfl)) (by kernel_rfl) (by first | exact hc1 | exact hc2) (fun K hK => ?_); go_simp; refine hK _ _ ?_; clear hK K) | (refine pl_loadnow rfl rfl (by first | exact wanted_none rfl | (go_simp; done) | rfl) rfl (by first | rfl | (go_simp; rfl)) (by kernel_rfl) (by first | exact hc1 | exact hc2) (fun K hK => ?_); go_simp; refine hK _ _ ?_; clear hK K))
     refine pl_done ?_;clear hc1 hc2;have HE := kq (xs.take (k + 1) = ys.take (k + 1)) (by rw [List.take_add_one, List.take_add_one, heq.o, HX.o, HY.o]);go_wp2_with fail;go_roundw
     case rel => exact ⟨k + 1, by omega, by go_num, HE, HB⟩
     case measure => simp [intOf]; omega
    ·have hbb : ((b8 x) != (b8 y)) = true := by
      have : b8 x ≠ b8 y := fun h => hxy (b8_inj h)
      simpa using this
     have HF := kp (show res = false by
      rw [← HRES.o]
      have : xs ≠ ys := fun h => by
       subst h;have h1 := HX.o;rw [HY.o] at h1;exact hxy (Option.some.inj h1).symm
      simpa using this)
     have hne : b8 x ≠ b8 y := fun h => hxy (b8_inj h)
     have hq := eq_false hne;clear hxy;try go_wp2_with fail
     repeat' (first | (with_reducible refine wpp (id := 6) Grow [0,0,0,2,0,0,0,2,0] (.get 0 (.get 1 (.get 2 (.get 3 (.get 4 (.get 5 (.get 6 (.get 7 (.get 8 .done))))))))) Grow.refl Grow.trans ?_) | go_values | go_skip | go_guarded | go_step | go_upon | go_back)
     intro w_ hd_;have y_ := hd_.grow;replace HB := kp (HB.o.grow' y_);replace H1A := kp (H1A.o.grow y_);replace H2A := kp (H2A.o.grow y_);clear y_ hd_;obtain ⟨b1, o1, u1, rfl, hb1, hu1, hc1⟩ := H1A.o.at_ hlt;obtain ⟨b2, o2, u2, rfl, hb2, hu2, hc2⟩ := H2A.o.at_ hlt;obtain rfl : u1 = .int .u8 (b8 x) := by rw [List.getElem?_map, HX.o] at hu1; exact (Option.some.inj hu1).symm
     obtain rfl : u2 = .int .u8 (b8 y) := by rw [List.getElem?_map, HY.o] at hu2; exact (Option.some.inj hu2).symm
     clear hb1 hb2 hu1 hu2;repeat (first | (refine plc (fun K hK => ?_); go_simp; refine hK _ _ ?_; clear hK K) | (refine pls (fun K hK => ?_); go_simp; refine hK _ _ ?_; clear hK K) | (refine psa (fun K hK => ?_); go_simp; refine hK _ _ ?_; clear hK K) | (refine pl_load rfl rfl (by first | exact wanted_none rfl | (go_simp; done) | rfl) rfl (by first | rfl | (go_simp; rfl)) (by kernel_rfl) (by first | exact hc1 | exact hc2) (fun K hK => ?_); go_simp; refine hK _ _ ?_; clear hK K) | (refine pl_loadnow rfl rfl (by first | exact wanted_none rfl | (go_simp; done) | rfl) rfl (by first | rfl | (go_simp; rfl)) (by kernel_rfl) (by first | exact hc1 | exact hc2) (fun K hK => ?_); go_simp; refine hK _ _ ?_; clear hK K))
     refine pl_done ?_;clear hc1 hc2;go_wp2_with fail;go_ret
     exact ⟨by rw [HF.o]; rfl, HB.o⟩
   ·obtain rfl : k = n := by omega
    have HT := kp (show res = true by
     rw [← HRES.o];have h := heq.o;rw [List.take_of_length_le (by rw [HL1.o]; exact Nat.le_refl _), List.take_of_length_le (by rw [HL2.o]; exact Nat.le_refl _)] at h
     simpa using h)
    go_wp2_with fail;go_ret
    exact ⟨by rw [HT.o]; rfl, hbw.o⟩
 ·have z1 : ((n : Int) != (n2 : Int)) = true := by simp; omega
  have HF := kp (show res = false by
   rw [← HRES.o];have : xs ≠ ys := fun h => by subst h; exact hnn (by rw [← HL1.o, ← HL2.o])
   simpa using this)
  have hz : ¬ ((n : Int) = (n2 : Int)) := by omega
  have hzq := eq_false hz
  go_enter Try.func11, Try.ntmps11
  go_wp2_with fail;go_ret
  exact ⟨by rw [HF.o]; rfl, Below.refl _ _⟩
open Go.RowKit Go.Shelf
theorem chk8 : checkC (kindC 8) = 0 := by decide +kernel
theorem put8 : putCm (kindC 8) = [1, 8] := by
 unfold putCm txPart certPart;rw [show (kindC 8).kind = 8 from rfl, show hasTxK 8 = false from rfl, show hasCK 8 = false from rfl];rw [if_neg (by decide), if_neg (by decide), if_neg (by decide), if_neg (by decide), if_neg (by decide), show (8 : Int).toNat = 8 from rfl, numB_eq, leB_pos (by omega), show 8 / 256 = 0 from rfl, leB_zero, lenB_pos (by omega), show 8 / 256 = 0 from rfl, lenB_zero]
 rfl
theorem form8 : formC (kindC 8) = ([1, 8], 0) := by
 unfold formC;rw [if_neg (by rw [chk8]; simp), put8, if_neg (by decide)]
theorem kind8_ok : (kindC 8).ok := kindC_ok (by unfold I64; omega)
theorem read8 : readCm [1, 8] = .ok (kindC 8) := by
 have h := readCm_put kind8_ok chk8 (by rw [put8]; decide)
 rwa [put8] at h
theorem read0 : readCm [0] = .error 25 := by
 have h0 : numB 0 = [0] := by rw [numB_eq, leB_zero, lenB_zero]; rfl
 have h1 : numR 9 [0] = .ok (0, []) := by
  have h := numR_put (n := 0) (most := 9) (t := []) (by omega) (by omega)
  rwa [h0] at h
 unfold readCm;rw [if_neg (by decide), lookCm_kind h1, if_pos rfl]
theorem cmdAt_8 (w : World) : CmdAt w noCW (kindC 8) := ⟨insAt_nil, outsAt_nil, CertsAt.nil w, rfl, rfl, kind8_ok⟩
theorem small8 : SmallC (kindC 8) := ⟨by simp [kindC, noCmd, noTxn], by simp [kindC, noCmd, noTxn], by simp [kindC, noCmd, noTxn], by simp [kindC, noCmd], by simp [kindC, noCmd]⟩
theorem awake24_any (w : World) : Calls Try.prog 8 #[] w fun e w' => e = .returned (.bool true) ∧ Grow w w' := by
 have BC := kp (built_cmd1 8);have HP := kp (fun w => cmput_any w (cmdAt_8 w) small8);have HR8 := kp (fun (w : World) (A : Option Addr) (h : Sl w w.heap.size 1 A 2 (([1, 8] : List UInt8).map B)) => cmread_any (c := 2) w h (by omega));have HR0 := kp (fun (w : World) (A : Option Addr) (h : Sl w w.heap.size 1 A 1 (([0] : List UInt8).map B)) => cmread_any (c := 1) w h (by omega));have HSM := kp (fun (w : World) (q : CW) (h : CmdAt w q (kindC 8)) => cmsame_any (res := true) (by simp) w h h small8);have HBY := kp (fun (w : World) (A : Option Addr) (c : Nat) (A2 : Option Addr) (h1 : Sl w w.heap.size 1 A 2 (([1, 8] : List UInt8).map B)) (h2 : Sl w w.heap.size 1 A2 2 (([1, 8] : List UInt8).map B)) => bytesq_any (c := c) (c2 := 2) (res := true) (by decide) w h1 h2 (by omega));simp only [form8] at HP;unfold CmRead at HR8 HR0;rw [read8] at HR8;rw [read0] at HR0;simp only [cmdOf, errOf] at HR8 HR0;have ZC := kp zero_cmd;have HCZ := kp (vs_cl (q := noCW) noCmd_ok);obtain ⟨zc, hzc⟩ := xe (noCW.vs noCmd);rw [← hzc] at ZC HCZ;rw [show ({ noCmd with kind := 8 } : Cmd) = kindC 8 from rfl] at BC;obtain ⟨m8, hm8⟩ := xe (kindC 8);have HK8 := kq (m8.kind = 8) (by rw [hm8]; rfl);have HO8 := kq m8.ok (by rw [hm8]; exact kind8_ok);rw [← hm8] at HP HR8 HSM BC;obtain ⟨pv, hpv⟩ := xe (noCW.vs m8);rw [← hpv] at BC HP;clear hzc hm8 hpv;have HB := kp (Below.refl w.heap.size w)
 go_enter Try.func8, Try.ntmps8
 go_wp2_with (with_reducible refine wst 8 ?_);refine stop_go ?_;refine wpl_build rfl rfl BC.o ?_;go_wp2_with fail;refine (HP.o _).mono ?_;rintro e w_ ⟨A1, c1, rfl, ho1, hc1, y_⟩;have HS1 := kq (Sl w_ w_.heap.size 1 A1 2 (([1, 8] : List UInt8).map B)) (Sl.of_own ho1);replace HB := kp (HB.o.grow' y_);clear ho1 hc1 y_ HP BC;go_wp2_with fail;generalize hw1 : World.alloc w_ _ = w1;obtain ⟨hX1, hb1, hs1⟩ := alloc_eq hw1;have HT1 := kq (Sl w1 w1.heap.size 1 (some ⟨w_.heap.size, 0, none⟩) 2 (([1, 8] : List UInt8).map B)) (Blk.sl (sz := 1) (n := 2) hX1 rfl);generalize w_.heap.size = gx at HT1 ⊢;clear hw1 hX1 hs1;have y_ := hb1;clear hb1;replace HB := kp (HB.o.grow' y_);replace HS1 := kp (HS1.o.grow y_);clear y_;try clear w_
 rename World => w_;refine (HR8.o _ _ HT1.o).mono ?_;rintro e v_ ⟨q, rfl, hc, y_⟩;have HQ := kp hc;clear hc HT1;have y_ := y_;clear y_;replace HB := kp (HB.o.grow' y_);replace HS1 := kp (HS1.o.grow y_);clear y_;try clear w_
 rename World => w_;have HQC := kp (vs_cl (q := q) HO8.o);have HQK := kp (vs_kind q m8);rw [HK8.o] at HQK;have HSQ := kp (fun w h => HSM.o w q h);obtain ⟨qv, hqv⟩ := xe (q.vs m8);rw [← hqv] at HQC HQK HSQ ⊢;clear hqv HSM HR8;go_wp2_with (with_reducible refine wal 3 zero_cmd ?_);intro w1_ hb1_ hbw1_ hsz1_;have HB1_ := kp (at_mk hb1_ len_cmd);have HBW1_ := kp hbw1_;have HZ1_ := kp hsz1_;clear hb1_ hbw1_ hsz1_;go_wp2_with (with_reducible refine wsb row_cmd HB1_.o.blk HB1_.o.len HQC.o.len HQC.o.one ?_);intro v_ b_ g_ s_;have y_ := var_grow HBW1_.o HZ1_.o g_;have HX_ := kp (at_mk b_ HQC.o.len);clear b_ g_ s_ HB1_ HBW1_ HZ1_;replace HB := kp (HB.o.grow' y_);replace HS1 := kp (HS1.o.grow y_);replace HQ := kp (HQ.o.grow y_);generalize hg_ : w_.heap.size = g3 at HX_ ⊢;clear hg_;have HX := HX_;clear y_ HX_;clear w1_;try clear w_
 rename World => w_;go_wp2_with fail;generalize hw1 : World.alloc w_ _ = w1;obtain ⟨hX1, hb1, hs1⟩ := alloc_eq hw1;have HT1 := kq (Sl w1 w1.heap.size 1 (some ⟨w_.heap.size, 0, none⟩) 1 (([0] : List UInt8).map B)) (Blk.sl (sz := 1) (n := 1) hX1 rfl);generalize w_.heap.size = gx at HT1 ⊢;clear hw1 hX1 hs1;have y_ := hb1;clear hb1;replace HB := kp (HB.o.grow' y_);replace HS1 := kp (HS1.o.grow y_);replace HQ := kp (HQ.o.grow y_);replace HX := kp (HX.o.grow y_);clear y_;try clear w_
 rename World => w_;refine (HR0.o _ _ HT1.o).mono ?_;rintro e v_ ⟨q5, rfl, hc, y_⟩;clear hc HT1;have y_ := y_;clear y_;replace HB := kp (HB.o.grow' y_);replace HS1 := kp (HS1.o.grow y_);replace HQ := kp (HQ.o.grow y_);replace HX := kp (HX.o.grow y_);clear y_;try clear w_
 rename World => w_;have HQ5 := kp (vs_cl (q := q5) noCmd_ok);obtain ⟨q5v, hq5v⟩ := xe (q5.vs noCmd);rw [← hq5v] at HQ5 ⊢;clear hq5v;go_wp2_with (with_reducible refine wal 5 zero_cmd ?_);intro w1_ hb1_ hbw1_ hsz1_;have HB1_ := kp (at_mk hb1_ len_cmd);have HBW1_ := kp hbw1_;have HZ1_ := kp hsz1_;clear hb1_ hbw1_ hsz1_;go_wp2_with (with_reducible refine wsb row_cmd HB1_.o.blk HB1_.o.len HQ5.o.len HQ5.o.one ?_);intro v_ b_ g_ s_;have y_ := var_grow HBW1_.o HZ1_.o g_;have HX_ := kp (at_mk b_ HQ5.o.len);clear b_ g_ s_ HB1_ HBW1_ HZ1_;replace HB := kp (HB.o.grow' y_);replace HS1 := kp (HS1.o.grow y_);replace HQ := kp (HQ.o.grow y_);replace HX := kp (HX.o.grow y_);generalize hg_ : w_.heap.size = g5 at HX_ ⊢;clear hg_;have HY := HX_;clear y_ HX_;clear w1_;try clear w_
 rename World => w_;clear HY;go_wp2_with fail;generalize hw1 : World.alloc w_ _ = w1;obtain ⟨hX1, hb1, hs1⟩ := alloc_eq hw1;have HT1 := kq (Sl w1 w1.heap.size 1 (some ⟨w_.heap.size, 0, none⟩) 2 (([1, 8] : List UInt8).map B)) (Blk.sl (sz := 1) (n := 2) hX1 rfl);generalize w_.heap.size = gx at HT1 ⊢;clear hw1 hX1 hs1;have y_ := hb1;clear hb1;replace HB := kp (HB.o.grow' y_);replace HS1 := kp (HS1.o.grow y_);replace HQ := kp (HQ.o.grow y_);replace HX := kp (HX.o.grow y_);clear y_;try clear w_
 rename World => w_;refine (HBY.o _ _ _ _ HS1.o HT1.o).mono ?_;rintro e v_ ⟨rfl, y_⟩;clear HT1 HS1;have y_ := y_;clear y_;replace HB := kp (HB.o.grow' y_);replace HQ := kp (HQ.o.grow y_);replace HX := kp (HX.o.grow y_);clear y_;try clear w_
 rename World => w_;have c0 := HX.o.blk.at_ HQK.o;go_wp2_with (first | (with_reducible refine wpl_loadw (o := ⟨some 43, _, _, _, _, _⟩) (by first | rfl | (go_simp; done) | fail) rfl row_cmd HX.o.blk rfl HX.o.len ?_) | (with_reducible refine wpl_loadw (o := ⟨some 44, _, _, _, _, _⟩) (by first | rfl | (go_simp; done) | fail) rfl row_cmd HX.o.blk rfl HX.o.len ?_));refine (HSQ.o _ HQ.o).mono ?_;rintro e v_ ⟨rfl, y_⟩;clear c0;have y_ := y_;clear y_;replace HB := kp (HB.o.grow' y_);clear y_;try clear w_
 rename World => w_;go_wp2_with fail;go_ret
 exact ⟨rfl, HB.o⟩
end Go.Proofs.Ytobmldegjajocaa

/- Contracts: a copy of bytes, the pen's Bytes and Id, the document's Num. -/
import Derived.Test.YtphmefhnffoafaaGreatDoorCertTurnedU6
import Derived.Lib.SliceRun
import Derived.Test.YtphmefhnffoafaaGreatDoorCertTurnedU1
import Derived.DeepKeys4
import Derived.MapKept
import Derived.Maps.Own
import Derived.OpenShut
import Derived.Test.YtphmefhnffoafaaGreatDoorRows
import Derived.Test.YtphmefhnffoafaaGreatDoorCertTurnedU3
set_option linter.unusedSimpArgs false
namespace Go.Proofs.YtphmefhnffoafaaGreatDoor
open Go.RowKit Go.Shelf
set_option linter.unusedVariables false
theorem own_cap1 {w : World} {base n c : Nat} {A : Option Addr} {xs : List Value} (h : w.ownsRow base 5 1 (.slice A n c) n xs) : n ≤ c := by
 rcases Nat.eq_zero_or_pos n with h0 | h0
 ·omega
 ·obtain ⟨_, _, _, _, hc⟩ := own_form h h0; exact hc
theorem run_nil_u8 (w : World) (a : Option Addr) (n c n' c' : Nat) : (binOp .eql 22 (.slice a n c) (.slice none n' c')).run Tryz.prog w = .ok (.bool a.isNone) w := Lib.run_eql_slice_nil w _ _ a n c n' c' Tryz.underlying22
set_option maxHeartbeats 1000000 in
theorem bclone_any (A : Option Addr) (n c : Nat) (bs : List UInt8) (w : World) (hs : Sl w w.heap.size 1 A n (bs.map B)) (hn : n ≤ 1000000) :
  Calls Tryz.prog 45 #[.slice A n c] w fun e w' => ∃ A' c', e = .returned (.slice A' n c') ∧ OwnAt w' w.heap.size A' n c' (bs.map B) ∧ n ≤ c' ∧ Grow w w' := by
 have HS := kp hs
 have qT := run_nil_u8
 cases A with
 | none =>
  obtain rfl : n = 0 := by
   rcases Nat.eq_zero_or_pos n with h0 | h0
   ·exact h0
   ·obtain ⟨b, off, u, h1, _⟩ := hs.at_ h0; cases h1
  have hb0 : bs = [] := by have := hs.len; simpa using this
  subst hb0
  clear hs
  go_enter Tryz.func45, Tryz.ntmps45
  go_wp2
  go_ret
  exact ⟨none, 0, rfl, World.ownsRow_nil _ _ _ _, Nat.le_refl _, Grow.refl _⟩
 | some ad =>
  have HN0 := kp (World.ownsRow_lit (base := w.heap.size) (e := 5) (size := 1) w #[] 0 (Nat.le_refl _) (by simp [maxLen]) rfl)
  have HSA := kp (hs.alloc (Nat.le_refl _) (.cells #[] 5))
  have HONE := kp (all_bytes bs)
  clear hs
  go_enter Tryz.func45, Tryz.ntmps45
  go_wp2_with (at_builtin; refine wpl_apps rfl rfl el_u8 HN0.out rfl HSA.out rfl HONE.out (by omega) (by omega) (by simp) ?_)
  intro A4 c4 w4 ho hg hA
  have HO := kp (show OwnAt w4 w.heap.size A4 n c4 (bs.map B) by unfold OwnAt; simpa using ho)
  have HB := kp (show Grow w w4 from ((Below.refl w.heap.size w).alloc (Nat.le_refl _) (.cells #[] 5)).grown hg (by simp) (by intro k hk; cases hk; exact Nat.le_refl _))
  clear ho hg hA
  try simp only [Nat.zero_add]
  go_wp2_with fail
  go_ret
  exact ⟨A4, c4, rfl, HO.out, own_cap1 HO.out, HB.out⟩
theorem pbytes_any (g : Nat) (K : Nat → Prop) (xs : List UInt8) (w : World) (h : PenAt w K g xs) (hl : xs.length ≤ 1000000) :
  Calls Tryz.prog 27 #[.pointer (some ⟨g, 0, none⟩)] w fun e w' => ∃ A' c', e = .returned (.slice A' xs.length c') ∧ OwnAt w' w.heap.size A' xs.length c' (xs.map B) ∧ xs.length ≤ c' ∧ Grow w w' := by
 obtain ⟨A, c, h1, h2, h3, h4⟩ := h
 have hc := h1.at_ (i := 0) rfl
 have HO := kp (Sl.of_own h2)
 clear h1 h2 h3 h4
 go_enter Tryz.func27, Tryz.ntmps27
 go_wp2_with fail
 refine (bclone_any A xs.length c xs _ HO.out hl).mono ?_
 rintro e w' ⟨A', c', rfl, h1, h2, h3⟩
 go_wp2_with fail
 go_ret
 exact ⟨A', c', rfl, h1, h2, h3⟩
set_option maxRecDepth 100000 in
set_option maxHeartbeats 1000000 in
theorem pid_any (g : Nat) (K : Nat → Prop) (xs : List UInt8) {ds : List Value} {d : List UInt8} (hd : Dig ds d) (w : World) (h : PenAt w K g xs) (hl : xs.length ≤ 1000000) :
  Calls Tryz.prog 26 #[.pointer (some ⟨g, 0, none⟩), .agg ds.toArray] w fun e w' => e = .returned (.tuple #[]) ∧ PenAt w' K g (xs ++ d) ∧ Kept K w w' := by
 have HP := kp h; clear h
 have HD := kp hd
 have HK0 := kp (show ∀ k, K k → k < w.heap.size from fun k hk => by obtain ⟨A, c, _, _, h3, _⟩ := HP.out; exact (h3 k hk).1)
 have HB := kp (Below.refl w.heap.size w)
 clear hd
 obtain ⟨gd, hgd⟩ : ∃ gd, gd = w.heap.size := ⟨_, rfl⟩
 have HG := kp hgd
 go_enter Tryz.func26, Tryz.ntmps26
 go_wp2_with (first | (with_reducible refine wpl_box (o := ⟨some 3, _, _, _, _, _⟩) rfl rfl rfl ?_))
 intro w1 hb1 hbw1 hsz1
 rw [← hgd] at hb1 hsz1 hbw1 ⊢
 have HX := kp (at_mk hb1 HD.out.len)
 have HP1 := kp (HP.out.more (K' := fun k => K k ∨ k = gd) (show Grow w w1 by rw [hgd] at hbw1; exact hbw1) (fun j hj => hj.imp_right (fun e => by omega)))
 have HK1 := kp (Kept.of_grow (show Grow w w1 by rw [hgd] at hbw1; exact hbw1) HK0.out)
 clear hb1 hbw1 hsz1 hgd HP HB
 repeat' (first | (with_reducible refine wp_plan (id := 1) Grow [0, 0, 0, 0, 2, 0, 3, 0, 0, 3] (.get 0 (.get 1 (.get 2 (.get 3 (.get 4 (.get 5 (.act 6 (.get 7 (.get 8 (.act 9 .done)))))))))) (by kernel_rfl) (by kernel_rfl) Grow.refl Grow.trans ?_) | go_values | go_skip | go_guarded | go_step | go_upon | go_back)
 intro w_ hd_
 have hdg := hd_.grow
 obtain ⟨Ap, cp, hq1, hq2, hq3, hq4⟩ := HP1.out.grow hdg
 have HPB := kp hq1
 have HPO := kp hq2
 have HPK := kp hq3
 have HPN := kp hq4
 have HPC := kp (show w_.cell? ⟨g, 0, none⟩ = some (.slice Ap xs.length cp) from hq1.at_ rfl)
 have HSL := kp ((HX.out.grow hdg).sl)
 have HK2 := kp (HK1.out.trans (Kept.of_grow hdg (fun k hk => Nat.lt_of_lt_of_le (HK0.out k hk) HK1.out.size)))
 have HONE := kp HD.out.one
 clear hq1 hq2 hq3 hq4 hd_ hdg
 repeat (first | (refine pl_calm rfl rfl (by first | exact wanted_none rfl | (go_simp; done) | rfl) (fun w_ => by first | (go_simp; rfl) | (go_simp; done) | rfl) (fun K hK => ?_); go_simp; refine hK _ _ ?_; clear hK K) | (refine pl_skip rfl (by first | (go_simp; done) | rfl) (fun K hK => ?_); go_simp; refine hK _ _ ?_; clear hK K) | (refine pl_skipa rfl (by first | (go_simp; done) | rfl) (fun K hK => ?_); go_simp; refine hK _ _ ?_; clear hK K) | (refine pl_load rfl rfl (by first | exact wanted_none rfl | (go_simp; done) | rfl) rfl (by first | rfl | (go_simp; rfl)) (by kernel_rfl) (by first | exact HPC.out) (fun K hK => ?_); go_simp; refine hK _ _ ?_; clear hK K) | (refine pl_loadnow rfl rfl (by first | exact wanted_none rfl | (go_simp; done) | rfl) rfl (by first | rfl | (go_simp; rfl)) (by kernel_rfl) (by first | exact HPC.out) (fun K hK => ?_); go_simp; refine hK _ _ ?_; clear hK K))
 refine pl_act rfl (by exact wanted_none rfl) (fun K hK => ?_)
 refine wpl_apps rfl rfl el_u8 HPO.out rfl HSL.out rfl HONE.out (by omega) (by omega) (Nat.zero_le _) ?_
 intro A3 c3 w3_ ho_ hg_ hA_
 have hll : (xs ++ d).length = xs.length + 32 := by rw [List.length_append, HD.out.2]
 have HPB3 := kp (HPB.out.grown hg_ (fun e => (HPN.out e.symm).elim))
 have HAP := kp (pen_app (ys := xs ++ d) (A' := A3) (c' := c3) HPB.out HPO.out HPK.out HPN.out (by rw [hll, List.map_append]; have h := HD.out.1; rw [h] at ho_; exact ho_) hg_ (fun b hb => hA_.elim (fun h => .inl (h.symm.trans hb)) (fun h => .inr (Nat.le_of_eq (Option.some.inj (h.symm.trans hb))))))
 rw [hll] at HAP
 clear ho_ hg_ hA_
 go_wp2_with fail
 refine hK _ _ (fun h => by cases h) ?_
 clear hK K
 repeat ((first | refine pl_calm rfl rfl (by first | exact wanted_none rfl | (go_simp; done) | rfl) (fun w_ => by first | (go_simp; rfl) | (go_simp; done) | rfl) (fun K hK => ?_) | refine pl_skip rfl (by first | (go_simp; done) | rfl) (fun K hK => ?_) | refine pl_skipa rfl (by first | (go_simp; done) | rfl) (fun K hK => ?_)); go_simp; refine hK _ _ ?_; clear hK K)
 refine pl_act rfl (by exact wanted_none rfl) (fun K hK => ?_)
 have hcl := HPB3.out.at_ (i := 0) rfl
 have hfz := HPB3.out.frozen 0
 go_wp2_with fail
 refine hK _ _ (fun h => by cases h) ?_
 clear hK K hcl hfz
 refine pl_done ?_
 refine bodyPost_end (results_none rfl _ _ _) rfl ?_
 exact ⟨rfl, HAP.out.1.less (fun k hk => .inl hk), HK2.out.trans (HAP.out.2.mono (fun k hk => .inl hk))⟩
theorem shr8 (N q : Nat) : (N : Int) / 2 ^ (8 * q) = ((N / 256 ^ q : Nat) : Int) := by
 have h : ((2 ^ (8 * q) : Nat) : Int) = 2 ^ (8 * q) := by simp
 rw [← h, ← Int.natCast_ediv, Nat.pow_mul]
set_option maxRecDepth 100000 in
set_option maxHeartbeats 1000000 in
theorem rnum_any (N : Nat) (w : World) (hN : N ≤ 18446744073709551615) :
  Calls Tryz.prog 54 #[.int .u64 N] w fun e w' => ∃ A c, e = .returned (.slice A (numB N).length c) ∧ OwnAt w' w.heap.size A (numB N).length c ((numB N).map B) ∧ (numB N).length ≤ c ∧ Grow w w' := by
 have HL8 := kp (lenB_64 hN)
 have h8 := lenB_64 hN
 go_enter Tryz.func54, Tryz.ntmps54
 go_wp2_with fail
 go_loopw [3, 4] (fun kv vv wq => ∃ j M : Nat, lenB M + j = lenB N ∧ M ≤ N ∧ kv = .int .i64 j ∧ vv = .int .u64 M ∧ wq = w) (fun _ vv _ => (intOf vv).toNat)
 case atStart => exact ⟨0, N, by omega, Nat.le_refl _, rfl, rfl, rfl⟩
 case round =>
  obtain ⟨j, M, hj, hMN, rfl, rfl, rfl⟩ := hrel
  by_cases hM : 0 < M
  ·have d1 : decide ((0 : Int) < (M : Int)) = true := by simpa using hM
   have h1 := lenB_pos (n := M) (by omega)
   go_wp2_with fail
   go_roundw
   case rel => exact ⟨j + 1, M / 256, by omega, by omega, by first | rfl | (congr 1; omega), by first | rfl | (congr 1; omega), by first | trivial | rfl⟩
   case measure => simp [intOf]; omega
  ·obtain rfl : M = 0 := by omega
   obtain rfl : j = lenB N := by rw [lenB_zero] at hj; omega
   simp only [show ((0 : Nat) : Int) = 0 from rfl]
   obtain ⟨w0, hw0⟩ : ∃ w0 : World, w0 = wr := ⟨_, rfl⟩
   subst hw0
   obtain ⟨n, hn⟩ : ∃ n, n = lenB N := ⟨_, rfl⟩
   rw [← hn] at h8 ⊢
   have HN := kp hn
   have hnl : (numB N).length = n + 1 := by rw [numB_len, ← hn]
   have HNL := kp hnl
   clear hn hj hMN HL8 hM hnl
   go_wp2_with fail
   generalize hw1 : World.alloc w0 _ = w1
   obtain ⟨hX, hb, hs⟩ := alloc_eq hw1
   obtain ⟨g0, hg0⟩ : ∃ g0, g0 = w0.heap.size := ⟨_, rfl⟩
   rw [← hg0] at hX hs ⊢
   have HG := kp hg0
   have HO1 := kp (own_blk (base := w0.heap.size) (w := w1) (g := g0) (n := 1) hX rfl (by omega) (by simp [maxLen]))
   have HB1 := kp hb
   clear hX hb hs hw1 hg0
   go_loopw [5, 6] (fun ov iv wq => ∃ t : Nat, ∃ A c, t ≤ n ∧ ov = .slice A (t + 1) c ∧ iv = .int .i64 ((n : Int) - 1 - (t : Int)) ∧ Hid (wq.ownsRow w0.heap.size 5 1 (.slice A (t + 1) c) (t + 1) (((numB N).take (t + 1)).map B)) ∧ Hid (Grow w0 wq)) (fun _ iv _ => (intOf iv + 1).toNat)
   case atStart =>
    refine ⟨0, some ⟨g0, 0, none⟩, 1, Nat.zero_le _, rfl, by simp, ?_, HB1⟩
    have h := HO1.out
    show w1.ownsRow _ _ _ _ _ _
    rw [numB_zero, ← HN.out]
    rw [bnat_s n (by omega)] at h
    exact h
   case round =>
    obtain ⟨t, A, c, ht, rfl, rfl, hown, hgr⟩ := hrel
    by_cases hlt : t < n
    ·obtain ⟨q, hq1, hq2⟩ : ∃ q : Nat, (n : Int) - 1 - (t : Int) = (q : Int) ∧ q = n - 1 - t := ⟨n - 1 - t, by omega, rfl⟩
     have hq7 : q ≤ 7 := by omega
     have d1 : decide ((0 : Int) ≤ (q : Int)) = true := by simp
     have HQ1 := kp hq1
     have HQ2 := kp hq2
     rw [hq1]
     clear hq1 hq2
     go_wp2_with (at_builtin; refine wpl_app1 rfl rfl el_u8 hown.out rfl (m := 1) rfl rfl ?_ ?_ ?_ ?_ ?_)
     ·rfl
     ·omega
     ·omega
     ·exact hgr.out.size
     intro A4 c4 w4 ho hg hA
     have HO4 := kp (show w4.ownsRow w0.heap.size 5 1 (.slice A4 (t + 1 + 1) c4) (t + 1 + 1) (((numB N).take (t + 1 + 1)).map B) by
      rw [numB_step (by have := HN.out; omega), List.map_append, ← HN.out, ← HQ2.out]
      simp only [List.map_cons, List.map_nil]
      rw [← bnat, ← shr8, List.map_take]; exact ho)
     have HB4 := kp (show Grow w0 w4 from below_grown hgr.out hg hgr.out.size (fun j hj => own_from hown.out j hj))
     clear ho hg hA
     go_wp2_with fail
     go_roundw
     case rel =>
      have h1 := HQ1.out
      refine ⟨t + 1, A4, c4, by omega, rfl, ?_, HO4, HB4⟩
      congr 1; omega
     case measure => simp [intOf]
    ·obtain rfl : t = n := by omega
     have d1 : decide ((0 : Int) ≤ (t : Int) - 1 - (t : Int)) = false := by simp only [decide_eq_false_iff_not]; omega
     go_wp2_with fail
     go_ret
     have hall : (numB N).take (t + 1) = numB N := by rw [HN.out]; exact numB_all N
     have ho := hown.out
     rw [hall] at ho
     rw [HNL.out]
     exact ⟨A, c, rfl, ho, own_cap1 ho, hgr.out⟩
set_option linter.unusedSimpArgs false
set_option linter.unusedVariables false
open Go.WideMaps (KeyLaw)
structure MapOK (P : Program) (k : TypeId) (es : Array MapEntry) (clock : Nat) : Prop where
 keyed : ∀ e ∈ es.toList, ∃ l, keyOf P k e.key = some l
 young : ∀ e ∈ es.toList, e.born < clock
 born : (es.toList.map (·.born)).Nodup
 keys : (es.toList.map (·.key)).Nodup
section
variable {P : Program} {w : World} {t k e : TypeId} {es : Array MapEntry} {clock b : Nat} {x : Value} {lx : Lit}
end
end Go.Proofs.YtphmefhnffoafaaGreatDoor
namespace Go.Proofs.YtphmefhnffoafaaGreatDoor
open Go.RowKit
open Go.WideMaps (KeyLaw)
set_option linter.unusedVariables false
set_option linter.unusedSimpArgs false
section
variable {P : Program}
theorem kl_int {t : TypeId} {k : IntKind} (ht : P.underlying t = some (.int k)) (d : Nat) (z : Int) (h : (Lit.int k z).wf = true) : ∃ l, P.keyLits (d + 1) t [.int k z] = some l := by
 unfold Program.keyLits
 rw [ht]
 refine ⟨[.int k z], ?_⟩
 show (if k = k ∧ (Lit.int k z).wf = true then some [Lit.int k z] else none) = _
 rw [if_pos ⟨rfl, h⟩]
theorem mapM_ex {α β : Type} (f : α → Option β) : ∀ (l : List α), (∀ x ∈ l, ∃ y, f x = some y) → ∃ r, l.mapM f = some r
 | [], _ => ⟨[], rfl⟩
 | x :: l, h => by
  obtain ⟨y, hy⟩ := h x (by simp)
  obtain ⟨r, hr⟩ := mapM_ex f l (fun z hz => h z (by simp [hz]))
  exact ⟨y :: r, by rw [List.mapM_cons, hy, hr]; rfl⟩
theorem kl_struct {t : TypeId} {fs : Array Field} (ht : P.underlying t = some (.struct fs)) (d : Nat) (cs : List Value) (hl : cs.length = P.cellsOf t) (hn : fs.all (·.name != "_") = true)
  (h : ∀ f ∈ fs.toList, ∃ l, P.keyLits d f.type ((cs.drop f.offset).take (P.cellsOf f.type)) = some l) : ∃ l, P.keyLits (d + 1) t cs = some l := by
 unfold Program.keyLits
 rw [ht]
 obtain ⟨r, hr⟩ := mapM_ex _ fs.toList h
 simp only
 rw [if_pos ⟨hl, hn⟩, hr]
 exact ⟨_, rfl⟩
theorem kl_bytes {t e : TypeId} {n : Nat} (ht : P.underlying t = some (.array n e)) (he : P.underlying e = some (.int .u8)) (hce : P.cellsOf e = 1) (hct : P.cellsOf t = n) (d : Nat) (ds : List UInt8) (h : ds.length = n) : ∃ l, P.keyLits (d + 2) t (ds.map B) = some l := by
 unfold Program.keyLits
 rw [ht]
 simp only [List.length_map, h, hct, if_true, hce, Nat.mul_one]
 obtain ⟨r, hr⟩ := mapM_ex (fun i => P.keyLits (d + 1) e (List.take 1 (List.drop i (ds.map B)))) (List.range n) (fun i hi => by
  have hi : i < n := by simpa using hi
  have e1 : List.take 1 (List.drop i (ds.map B)) = [B (ds[i]?.getD 0)] := by
   rw [List.take_one, List.head?_drop, List.getElem?_map, List.getElem?_eq_getElem (by omega)]; rfl
  rw [e1]
  exact kl_int he d (b8 (ds[i]?.getD 0)) (by have := b8_range (ds[i]?.getD 0); simp [Lit.wf, IntKind.min, IntKind.max, IntKind.signed, IntKind.bits]; omega))
 rw [hr]
 exact ⟨_, rfl⟩
theorem keyOf_wide {t : TypeId} (hw : (match P.underlying t with | some (.array _ _) | some (.struct _) => true | _ => false) = true) (hk : P.keyType t = true) (cs : List Value) (hf : (Value.agg cs.toArray).formed P t = true) :
  keyOf P t (.agg cs.toArray) = (P.keyLits (P.types.size + 1) t cs).map fun ls => .string (keyBytes ls) := by
 unfold keyOf
 revert hw
 cases hu : P.underlying t with
 | none => intro h; cases h
 | some d =>
  cases d
  case array => intro _; simp [hk, hf, Value.cells]
  case struct => intro _; simp [hk, hf, Value.cells]
  all_goals (intro h; cases h)
theorem formed_wide {t : TypeId} (hw : (match P.underlying t with | some (.array _ _) | some (.struct _) => true | _ => false) = true) (cs : List Value) (hl : cs.length = P.cellsOf t) : (Value.agg cs.toArray).formed P t = true := by
 unfold Value.formed
 revert hw
 cases hu : P.underlying t with
 | none => simp
 | some d => cases d <;> simp [hl]
theorem keyOf_ex {t : TypeId} (hw : (match P.underlying t with | some (.array _ _) | some (.struct _) => true | _ => false) = true) (hk : P.keyType t = true) (cs : List Value) (hl : cs.length = P.cellsOf t)
  (h : ∃ l, P.keyLits (P.types.size + 1) t cs = some l) : ∃ l, keyOf P t (.agg cs.toArray) = some l := by
 obtain ⟨l, hl2⟩ := h
 rw [keyOf_wide hw hk cs (formed_wide hw cs hl), hl2]
 exact ⟨_, rfl⟩
theorem eql_deep {t : TypeId} (K : KeyLaw P t) {m : Nat} (hm : m ≤ 10000) (hd : P.keyTypeAt m t = true) (hw : (match P.underlying t with | some (.array _ _) | some (.struct _) => true | _ => false) = true) (hk : P.keyType t = true)
  (x y : List Value) (hx : x.length = P.cellsOf t) (hy : y.length = P.cellsOf t) (kx : ∃ l, P.keyLits (P.types.size + 1) t x = some l) (ky : ∃ l, P.keyLits (P.types.size + 1) t y = some l) :
  ∃ r : Bool, (r = true ↔ x = y) ∧ ∀ w, (Op.equalIn 10000 t (.agg x.toArray) (.agg y.toArray)).run P w = .ok r w := by
 obtain ⟨lx, hlx⟩ := keyOf_ex hw hk x hx kx
 obtain ⟨ly, hly⟩ := keyOf_ex hw hk y hy ky
 have hf := fun cs hl => formed_wide (P := P) (t := t) hw cs hl
 obtain ⟨l1, e1⟩ := kx
 obtain ⟨l2, e2⟩ := ky
 have hall : ∀ w, ∃ r : Bool, (Op.equalIn 10000 t (.agg x.toArray) (.agg y.toArray)).run P w = .ok r w ∧ (r = true ↔ l1 = l2) := by
  intro w
  have := run_equalIn_deep (P := P) (10000 - m) m t hd w _ _ (.agg x.toArray) (.agg y.toArray) l1 l2 (hf x hx) (hf y hy) (by simpa [Value.cells] using e1) (by simpa [Value.cells] using e2)
  rwa [show 10000 - m + m = 10000 by omega] at this
 have hxy : l1 = l2 ↔ x = y := by
  constructor
  ·intro h
   subst h
   have k1 : keyOf P t (.agg x.toArray) = keyOf P t (.agg y.toArray) := by
    rw [keyOf_wide hw hk x (hf x hx), keyOf_wide hw hk y (hf y hy), e1, e2]
   have := K.inj hlx (k1 ▸ hlx)
   simpa using this
  ·intro h
   subst h
   rw [e1] at e2; cases e2; rfl
 by_cases h : x = y
 ·refine ⟨true, by simp [h], fun w => ?_⟩
  obtain ⟨r, h1, h2⟩ := hall w
  have : r = true := h2.2 (hxy.2 h)
  rw [h1, this]
 ·refine ⟨false, by simp [h], fun w => ?_⟩
  obtain ⟨r, h1, h2⟩ := hall w
  have : r = false := by
   cases r with
   | false => rfl
   | true => exact absurd (hxy.1 (h2.1 rfl)) h
  rw [h1, this]
end
end Go.Proofs.YtphmefhnffoafaaGreatDoor
namespace Go.Proofs.YtphmefhnffoafaaGreatDoor
open Go.RowKit
set_option linter.unusedVariables false
structure Ent where
 kind : Int
 shard : Int
 tx : List UInt8
 amount : Int
 why : Int
 epoch : Int
structure Hdr where
 shard : Int
 height : Int
 epoch : Int
 prev : List UInt8
 root : List UInt8
def I64 (n : Int) : Prop := -9223372036854775808 ≤ n ∧ n ≤ 9223372036854775807
def U64 (n : Int) : Prop := 0 ≤ n ∧ n ≤ 18446744073709551615
theorem I64.wf {n : Int} (h : I64 n) : (Lit.int .i64 n).wf = true := by unfold I64 at h; simp [Lit.wf, IntKind.min, IntKind.max, IntKind.signed, IntKind.bits]; omega
theorem U64.wf {n : Int} (h : U64 n) : (Lit.int .u64 n).wf = true := by unfold U64 at h; simp [Lit.wf, IntKind.min, IntKind.max, IntKind.signed, IntKind.bits]; omega
def Ent.ok (e : Ent) : Prop := I64 e.kind ∧ I64 e.shard ∧ e.tx.length = 32 ∧ U64 e.amount ∧ I64 e.why ∧ I64 e.epoch
def Hdr.ok (h : Hdr) : Prop := I64 h.shard ∧ I64 h.height ∧ I64 h.epoch ∧ h.prev.length = 32 ∧ h.root.length = 32
def entV (e : Ent) : List Value := .int .i64 e.kind :: .int .i64 e.shard :: (e.tx.map B ++ [.int .u64 e.amount, .int .i64 e.why, .int .i64 e.epoch])
def hdrV (h : Hdr) : List Value := .int .i64 h.shard :: .int .i64 h.height :: .int .i64 h.epoch :: (h.prev.map B ++ h.root.map B)
theorem entV_length {e : Ent} (h : e.ok) : (entV e).length = 37 := by simp [entV, h.2.2.1]
theorem hdrV_length {e : Hdr} (h : e.ok) : (hdrV e).length = 67 := by simp [hdrV, h.2.2.2.1, h.2.2.2.2]
def noEnt : Ent := ⟨0, 0, List.replicate 32 0, 0, 0, 0⟩
def noHdr : Hdr := ⟨0, 0, 0, List.replicate 32 0, List.replicate 32 0⟩
theorem noEnt_ok : noEnt.ok := by simp [noEnt, Ent.ok, I64, U64]
theorem noHdr_ok : noHdr.ok := by simp [noHdr, Hdr.ok, I64]
theorem cells_u8 : Tryz.prog.cellsOf 5 = 1 := by kernel_rfl
theorem cells_u64 : Tryz.prog.cellsOf 25 = 1 := by kernel_rfl
theorem cells_id : Tryz.prog.cellsOf 24 = 32 := by kernel_rfl
theorem cells_int : Tryz.prog.cellsOf 3 = 1 := by kernel_rfl
theorem cells_entry : Tryz.prog.cellsOf 27 = 37 := by kernel_rfl
theorem cells_header : Tryz.prog.cellsOf 33 = 67 := by kernel_rfl
theorem laid_out' : laidOutB Tryz.prog = true := by kernel_rfl
theorem key_entry : WideMaps.KeyLaw Tryz.prog 27 := deep_law_laid laid_out' (m := 3) (by omega) (of_decide_eq_true (by kernel_rfl)) (by kernel_rfl) (by kernel_rfl)
theorem key_header : WideMaps.KeyLaw Tryz.prog 33 := deep_law_laid laid_out' (m := 3) (by omega) (of_decide_eq_true (by kernel_rfl)) (by kernel_rfl) (by kernel_rfl)
theorem row_entry : RowT Tryz.prog 27 37 := ⟨_, Tryz.underlying27, by kernel_rfl, by kernel_rfl⟩
theorem row_header : RowT Tryz.prog 33 67 := ⟨_, Tryz.underlying33, by kernel_rfl, by kernel_rfl⟩
theorem types_3 : ∃ n, Tryz.prog.types.size + 1 = n + 4 := ⟨Tryz.prog.types.size - 3, by kernel_rfl⟩
theorem lits_id (d : Nat) (ds : List UInt8) (h : ds.length = 32) : ∃ l, Tryz.prog.keyLits (d + 2) 24 (ds.map B) = some l :=
 kl_bytes Tryz.underlying24 Tryz.underlying5 cells_u8 cells_id d ds h
theorem lits_ent (d : Nat) (e : Ent) (h : e.ok) : ∃ l, Tryz.prog.keyLits (d + 3) 27 (entV e) = some l := by
 refine kl_struct Tryz.underlying27 _ _ (by rw [entV_length h, cells_entry]) (by kernel_rfl) ?_
 obtain ⟨h1, h2, h3, h4, h5, h6⟩ := h
 have e0 : (e.tx.map B).length = 32 := by rw [List.length_map, h3]
 intro f hf
 simp only [List.mem_cons, List.not_mem_nil, or_false] at hf
 rcases hf with rfl | rfl | rfl | rfl | rfl | rfl
 ·simp only [cells_int]; exact kl_int Tryz.underlying3 _ _ h1.wf
 ·simp only [cells_int]; exact kl_int Tryz.underlying3 _ _ h2.wf
 ·have : List.take 32 (List.drop 2 (entV e)) = e.tx.map B := by unfold entV; rw [List.drop_succ_cons, List.drop_succ_cons, List.drop_zero, List.take_append_of_le_length (by omega), List.take_of_length_le (by omega)]
  simp only [cells_id, this]; exact lits_id _ _ h3
 ·have : List.take 1 (List.drop 34 (entV e)) = [.int .u64 e.amount] := by
   unfold entV; rw [List.drop_succ_cons, List.drop_succ_cons, List.drop_append_of_le_length (by omega), List.drop_of_length_le (by omega)]; rfl
  simp only [cells_u64, this]; exact kl_int Tryz.underlying25 _ _ h4.wf
 ·have : List.take 1 (List.drop 35 (entV e)) = [.int .i64 e.why] := by
   unfold entV; rw [List.drop_succ_cons, List.drop_succ_cons, List.drop_append, e0, List.drop_of_length_le (by omega)]; rfl
  simp only [cells_int, this]; exact kl_int Tryz.underlying3 _ _ h5.wf
 ·have : List.take 1 (List.drop 36 (entV e)) = [.int .i64 e.epoch] := by
   unfold entV; rw [List.drop_succ_cons, List.drop_succ_cons, List.drop_append, e0, List.drop_of_length_le (by omega)]; rfl
  simp only [cells_int, this]; exact kl_int Tryz.underlying3 _ _ h6.wf
theorem lits_hdr (d : Nat) (e : Hdr) (h : e.ok) : ∃ l, Tryz.prog.keyLits (d + 3) 33 (hdrV e) = some l := by
 refine kl_struct Tryz.underlying33 _ _ (by rw [hdrV_length h, cells_header]) (by kernel_rfl) ?_
 obtain ⟨h1, h2, h3, h4, h5⟩ := h
 have e0 : (e.prev.map B).length = 32 := by rw [List.length_map, h4]
 have e1 : (e.root.map B).length = 32 := by rw [List.length_map, h5]
 intro f hf
 simp only [List.mem_cons, List.not_mem_nil, or_false] at hf
 rcases hf with rfl | rfl | rfl | rfl | rfl
 ·simp only [cells_int]; exact kl_int Tryz.underlying3 _ _ h1.wf
 ·simp only [cells_int]; exact kl_int Tryz.underlying3 _ _ h2.wf
 ·simp only [cells_int]; exact kl_int Tryz.underlying3 _ _ h3.wf
 ·have : List.take 32 (List.drop 3 (hdrV e)) = e.prev.map B := by unfold hdrV; rw [List.drop_succ_cons, List.drop_succ_cons, List.drop_succ_cons, List.drop_zero, List.take_append_of_le_length (by omega), List.take_of_length_le (by omega)]
  simp only [cells_id, this]; exact lits_id _ _ h4
 ·have : List.take 32 (List.drop 35 (hdrV e)) = e.root.map B := by
   unfold hdrV; rw [List.drop_succ_cons, List.drop_succ_cons, List.drop_succ_cons, List.drop_append_of_le_length (by omega), List.drop_of_length_le (by omega), List.nil_append, List.take_of_length_le (by omega)]
  simp only [cells_id, this]; exact lits_id _ _ h5
theorem ewithin_any (n lo hi : Int) (w : World) : Calls Tryz.prog 86 #[.int .i64 n, .int .i64 lo, .int .i64 hi] w fun e w' => e = .returned (.bool (decide (lo ≤ n) && decide (n ≤ hi))) ∧ w = w' := by
 by_cases h : lo ≤ n
 ·rw [show decide (lo ≤ n) = true by simpa using h, Bool.true_and]
  go_enter Tryz.func86, Tryz.ntmps86
  go_wp2
  go_ret
  exact ⟨rfl, rfl⟩
 ·rw [show decide (lo ≤ n) = false by simpa using h, Bool.false_and]
  have h2 : decide (lo ≤ n) = false := by simpa using h
  go_enter Tryz.func86, Tryz.ntmps86
  go_wp2
  go_ret
  exact ⟨rfl, rfl⟩
theorem hwithin_any (n lo hi : Int) (w : World) : Calls Tryz.prog 77 #[.int .i64 n, .int .i64 lo, .int .i64 hi] w fun e w' => e = .returned (.bool (decide (lo ≤ n) && decide (n ≤ hi))) ∧ w = w' := by
 by_cases h : lo ≤ n
 ·rw [show decide (lo ≤ n) = true by simpa using h, Bool.true_and]
  go_enter Tryz.func77, Tryz.ntmps77
  go_wp2
  go_ret
  exact ⟨rfl, rfl⟩
 ·rw [show decide (lo ≤ n) = false by simpa using h, Bool.false_and]
  have h2 : decide (lo ≤ n) = false := by simpa using h
  go_enter Tryz.func77, Tryz.ntmps77
  go_wp2
  go_ret
  exact ⟨rfl, rfl⟩
def inB (n lo hi : Int) : Bool := decide (lo ≤ n) && decide (n ≤ hi)
def rightE (e : Ent) : Bool := inB e.kind 1 3 && inB e.shard 0 63 && decide (e.amount ≤ 4611686018427387904) && inB e.why 0 63 && inB e.epoch 0 1099511627776
def rightH (h : Hdr) : Bool := inB h.shard 0 63 && inB h.height 1 1099511627776 && inB h.epoch 0 1099511627776
def zeroEnt : Array Value := #[.int .i64 0, .int .i64 0, .int .u8 0, .int .u8 0, .int .u8 0, .int .u8 0, .int .u8 0, .int .u8 0, .int .u8 0, .int .u8 0, .int .u8 0, .int .u8 0, .int .u8 0, .int .u8 0, .int .u8 0, .int .u8 0, .int .u8 0, .int .u8 0, .int .u8 0, .int .u8 0, .int .u8 0, .int .u8 0, .int .u8 0, .int .u8 0, .int .u8 0, .int .u8 0, .int .u8 0, .int .u8 0, .int .u8 0, .int .u8 0, .int .u8 0, .int .u8 0, .int .u8 0, .int .u8 0, .int .u64 0, .int .i64 0, .int .i64 0]
def zeroHdr : Array Value := #[.int .i64 0, .int .i64 0, .int .i64 0, .int .u8 0, .int .u8 0, .int .u8 0, .int .u8 0, .int .u8 0, .int .u8 0, .int .u8 0, .int .u8 0, .int .u8 0, .int .u8 0, .int .u8 0, .int .u8 0, .int .u8 0, .int .u8 0, .int .u8 0, .int .u8 0, .int .u8 0, .int .u8 0, .int .u8 0, .int .u8 0, .int .u8 0, .int .u8 0, .int .u8 0, .int .u8 0, .int .u8 0, .int .u8 0, .int .u8 0, .int .u8 0, .int .u8 0, .int .u8 0, .int .u8 0, .int .u8 0, .int .u8 0, .int .u8 0, .int .u8 0, .int .u8 0, .int .u8 0, .int .u8 0, .int .u8 0, .int .u8 0, .int .u8 0, .int .u8 0, .int .u8 0, .int .u8 0, .int .u8 0, .int .u8 0, .int .u8 0, .int .u8 0, .int .u8 0, .int .u8 0, .int .u8 0, .int .u8 0, .int .u8 0, .int .u8 0, .int .u8 0, .int .u8 0, .int .u8 0, .int .u8 0, .int .u8 0, .int .u8 0, .int .u8 0, .int .u8 0, .int .u8 0, .int .u8 0]
theorem zeroEnt_eq : (entV noEnt).toArray = zeroEnt := rfl
theorem zeroHdr_eq : (hdrV noHdr).toArray = zeroHdr := rfl
theorem ent_at {e : Ent} (h : e.ok) : (entV e)[0]? = some (.int .i64 e.kind) ∧ (entV e)[1]? = some (.int .i64 e.shard) ∧ (entV e)[34]? = some (.int .u64 e.amount) ∧ (entV e)[35]? = some (.int .i64 e.why) ∧ (entV e)[36]? = some (.int .i64 e.epoch) := by
 have e0 : (e.tx.map B).length = 32 := by rw [List.length_map, h.2.2.1]
 refine ⟨rfl, rfl, ?_, ?_, ?_⟩
 all_goals
  unfold entV
  rw [List.getElem?_cons_succ, List.getElem?_cons_succ, List.getElem?_append_right (by omega), e0]
  rfl
set_option maxRecDepth 100000 in
set_option maxHeartbeats 1000000 in
theorem eright_any (e : Ent) (w : World) (h : e.ok) : Calls Tryz.prog 60 #[.agg (entV e).toArray] w fun en w' => en = .returned (.bool (rightE e)) ∧ Below w.heap.size w w' := by
 obtain ⟨n4, hn4⟩ := types_3
 obtain ⟨r, hr, hq⟩ := eql_deep key_entry (m := 3) (by omega) (by kernel_rfl) (by kernel_rfl) (by kernel_rfl) (entV e) (entV noEnt) (by rw [entV_length h, cells_entry]) (by rw [entV_length noEnt_ok, cells_entry]) (by rw [hn4]; exact lits_ent (n4 + 1) e h) (by rw [hn4]; exact lits_ent (n4 + 1) noEnt noEnt_ok)
 rw [zeroEnt_eq] at hq
 unfold zeroEnt at hq
 have hz : r = true → rightE e = false := by
  intro h1
  have h2 := hr.1 h1
  have h3 : e.kind = 0 := by
   have := congrArg List.head? h2
   simpa [entV, noEnt] using this
  unfold rightE inB
  rw [h3]; rfl
 obtain ⟨a1, a2, a3, a4, a5⟩ := ent_at h
 have HL := kp (entV_length h)
 obtain ⟨xs, hxs⟩ : ∃ xs, xs = entV e := ⟨_, rfl⟩
 rw [← hxs] at hq a1 a2 a3 a4 a5 HL ⊢
 have HZ := kp hz
 have A1 := kp a1; have A2 := kp a2; have A3 := kp a3; have A4 := kp a4; have A5 := kp a5
 obtain ⟨res, hres⟩ : ∃ res, res = rightE e := ⟨_, rfl⟩
 rw [← hres]
 have HRES := kp hres
 obtain ⟨g, hg⟩ : ∃ g, g = w.heap.size := ⟨_, rfl⟩
 have HG := kp hg
 clear hz a1 a2 a3 a4 a5 hr hxs hres hg h hn4
 go_enter Tryz.func60, Tryz.ntmps60
 go_wp2_with (first | (with_reducible refine wpl_box (o := ⟨some 1, _, _, _, _, _⟩) rfl rfl rfl ?_))
 intro w1 hb1 hbw1 hsz1
 rw [← HG.out] at hb1 hbw1 hsz1 ⊢
 have H1 := kp hb1
 have HB := kp hbw1
 clear hb1 hbw1 hsz1
 have c0 := H1.out.at_ A1.out
 have c1 := H1.out.at_ A2.out
 have c2 := H1.out.at_ A3.out
 have c3 := H1.out.at_ A4.out
 have c4 := H1.out.at_ A5.out
 have w1' := fun w => ewithin_any e.kind 1 3 w
 have w2' := fun w => ewithin_any e.shard 0 63 w
 have w4' := fun w => ewithin_any e.why 0 63 w
 have w5' := fun w => ewithin_any e.epoch 0 1099511627776 w
 have HRE : Hid (res = (inB e.kind 1 3 && inB e.shard 0 63 && decide (e.amount ≤ 4611686018427387904) && inB e.why 0 63 && inB e.epoch 0 1099511627776)) := HRES
 obtain ⟨b1, hb1⟩ : ∃ b1, b1 = inB e.kind 1 3 := ⟨_, rfl⟩
 obtain ⟨b2, hb2⟩ : ∃ b2, b2 = inB e.shard 0 63 := ⟨_, rfl⟩
 obtain ⟨b4, hb4⟩ : ∃ b4, b4 = inB e.why 0 63 := ⟨_, rfl⟩
 obtain ⟨b5, hb5⟩ : ∃ b5, b5 = inB e.epoch 0 1099511627776 := ⟨_, rfl⟩
 rw [← hb1, ← hb2, ← hb4, ← hb5] at HRE
 have W1 := kp (show ∀ w, Calls Tryz.prog 86 #[.int .i64 e.kind, .int .i64 1, .int .i64 3] w fun en w' => en = .returned (.bool b1) ∧ w = w' by rw [hb1]; exact w1')
 have W2 := kp (show ∀ w, Calls Tryz.prog 86 #[.int .i64 e.shard, .int .i64 0, .int .i64 63] w fun en w' => en = .returned (.bool b2) ∧ w = w' by rw [hb2]; exact w2')
 have W4 := kp (show ∀ w, Calls Tryz.prog 86 #[.int .i64 e.why, .int .i64 0, .int .i64 63] w fun en w' => en = .returned (.bool b4) ∧ w = w' by rw [hb4]; exact w4')
 have W5 := kp (show ∀ w, Calls Tryz.prog 86 #[.int .i64 e.epoch, .int .i64 0, .int .i64 1099511627776] w fun en w' => en = .returned (.bool b5) ∧ w = w' by rw [hb5]; exact w5')
 clear hb1 hb2 hb4 hb5 w1' w2' w4' w5'
 generalize e.kind = k1 at *
 generalize e.shard = k2 at *
 generalize e.amount = k3 at *
 generalize e.why = k4 at *
 generalize e.epoch = k5 at *
 cases r
 ·clear HZ HRES
  cases b1
  ·go_wp2_with (first | (with_reducible refine wpl_loadb (o := ⟨some 3, _, _, _, _, _⟩) rfl rfl row_entry H1.out rfl HL.out ?_))
   go_wp2_with fail
   refine (W1.out _).mono ?_
   rintro e w_ ⟨rfl, rfl⟩
   go_wp2_with fail
   go_ret
   exact ⟨ret_bool (by rw [HRE.out]; rfl), by rw [← HG.out]; exact HB.out⟩
  cases b2
  ·go_wp2_with (first | (with_reducible refine wpl_loadb (o := ⟨some 3, _, _, _, _, _⟩) rfl rfl row_entry H1.out rfl HL.out ?_))
   go_wp2_with fail
   refine (W1.out _).mono ?_
   rintro e w_ ⟨rfl, rfl⟩
   go_wp2_with fail
   refine (W2.out _).mono ?_
   rintro e w_ ⟨rfl, rfl⟩
   go_wp2_with fail
   go_ret
   exact ⟨ret_bool (by rw [HRE.out]; rfl), by rw [← HG.out]; exact HB.out⟩
  by_cases h3 : k3 ≤ 4611686018427387904
  ·have d3 : decide (k3 ≤ 4611686018427387904) = true := by simpa using h3
   rw [d3] at HRE
   cases b4
   ·go_wp2_with (first | (with_reducible refine wpl_loadb (o := ⟨some 3, _, _, _, _, _⟩) rfl rfl row_entry H1.out rfl HL.out ?_))
    go_wp2_with fail
    refine (W1.out _).mono ?_
    rintro e w_ ⟨rfl, rfl⟩
    go_wp2_with fail
    refine (W2.out _).mono ?_
    rintro e w_ ⟨rfl, rfl⟩
    go_wp2_with fail
    refine (W4.out _).mono ?_
    rintro e w_ ⟨rfl, rfl⟩
    go_wp2_with fail
    go_ret
    exact ⟨ret_bool (by rw [HRE.out]; rfl), by rw [← HG.out]; exact HB.out⟩
   ·go_wp2_with (first | (with_reducible refine wpl_loadb (o := ⟨some 3, _, _, _, _, _⟩) rfl rfl row_entry H1.out rfl HL.out ?_))
    go_wp2_with fail
    refine (W1.out _).mono ?_
    rintro e w_ ⟨rfl, rfl⟩
    go_wp2_with fail
    refine (W2.out _).mono ?_
    rintro e w_ ⟨rfl, rfl⟩
    go_wp2_with fail
    refine (W4.out _).mono ?_
    rintro e w_ ⟨rfl, rfl⟩
    go_wp2_with fail
    refine (W5.out _).mono ?_
    rintro e w_ ⟨rfl, rfl⟩
    go_wp2_with fail
    go_ret
    exact ⟨ret_bool (by rw [HRE.out]; simp), by rw [← HG.out]; exact HB.out⟩
  ·have d3 : decide (k3 ≤ 4611686018427387904) = false := by simpa using h3
   rw [d3] at HRE
   go_wp2_with (first | (with_reducible refine wpl_loadb (o := ⟨some 3, _, _, _, _, _⟩) rfl rfl row_entry H1.out rfl HL.out ?_))
   go_wp2_with fail
   refine (W1.out _).mono ?_
   rintro e w_ ⟨rfl, rfl⟩
   go_wp2_with fail
   refine (W2.out _).mono ?_
   rintro e w_ ⟨rfl, rfl⟩
   go_wp2_with fail
   go_ret
   exact ⟨ret_bool (by rw [HRE.out]; simp), by rw [← HG.out]; exact HB.out⟩
 ·have hf : res = false := HRES.out.trans (by simpa using HZ.out)
  have HF := kp hf
  clear hf
  go_wp2_with (first | (with_reducible refine wpl_loadb (o := ⟨some 3, _, _, _, _, _⟩) rfl rfl row_entry H1.out rfl HL.out ?_))
  go_ret
  exact ⟨ret_bool (by rw [HF.out]), by rw [← HG.out]; exact HB.out⟩
theorem zeroV_of {P : Program} {t : TypeId} {zs : Array Value} (h : (P.info? t).map (·.zero) = some (some (.agg zs))) (w : World) : (zeroValue t).run P w = .ok (.agg zs) w := by
 obtain ⟨i, hi, hz⟩ := Option.map_eq_some_iff.1 h
 simp [zeroValue, typeInfo, hi, hz]
theorem zero_hdr : (Tryz.prog.info? 33).map (·.zero) = some (some (.agg zeroHdr)) := by kernel_rfl
theorem hdr_at {e : Hdr} (h : e.ok) : (hdrV e)[0]? = some (.int .i64 e.shard) ∧ (hdrV e)[1]? = some (.int .i64 e.height) ∧ (hdrV e)[2]? = some (.int .i64 e.epoch) := ⟨rfl, rfl, rfl⟩
set_option maxRecDepth 100000 in
set_option maxHeartbeats 1000000 in
theorem hright_any (e : Hdr) (w : World) (h : e.ok) : Calls Tryz.prog 46 #[.agg (hdrV e).toArray] w fun en w' => en = .returned (.bool (rightH e)) ∧ Below w.heap.size w w' := by
 obtain ⟨n4, hn4⟩ := types_3
 obtain ⟨r, hr, hq⟩ := eql_deep key_header (m := 3) (by omega) (by kernel_rfl) (by kernel_rfl) (by kernel_rfl) (hdrV e) (hdrV noHdr) (by rw [hdrV_length h, cells_header]) (by rw [hdrV_length noHdr_ok, cells_header]) (by rw [hn4]; exact lits_hdr (n4 + 1) e h) (by rw [hn4]; exact lits_hdr (n4 + 1) noHdr noHdr_ok)
 rw [zeroHdr_eq] at hq
 have hzv := fun w => zeroV_of zero_hdr w
 unfold zeroHdr at hq hzv
 have hz : r = true → rightH e = false := by
  intro h1
  have h2 := hr.1 h1
  have h3 : e.height = 0 := by
   have := congrArg (fun l => l[1]?) h2
   simpa [hdrV, noHdr] using this
  unfold rightH inB
  rw [h3]; simp
 obtain ⟨a1, a2, a3⟩ := hdr_at h
 have HL := kp (hdrV_length h)
 obtain ⟨xs, hxs⟩ : ∃ xs, xs = hdrV e := ⟨_, rfl⟩
 rw [← hxs] at hq a1 a2 a3 HL ⊢
 have HZ := kp hz
 have A1 := kp a1; have A2 := kp a2; have A3 := kp a3
 obtain ⟨res, hres⟩ : ∃ res, res = rightH e := ⟨_, rfl⟩
 rw [← hres]
 have HRES := kp hres
 obtain ⟨g, hg⟩ : ∃ g, g = w.heap.size := ⟨_, rfl⟩
 have HG := kp hg
 clear hz a1 a2 a3 hr hxs hres hg h hn4
 go_enter Tryz.func46, Tryz.ntmps46
 go_wp2_with (first | (with_reducible refine wpl_box (o := ⟨some 1, _, _, _, _, _⟩) rfl rfl rfl ?_))
 intro w1 hb1 hbw1 hsz1
 rw [← HG.out] at hb1 hbw1 hsz1 ⊢
 have H1 := kp hb1
 have HB := kp hbw1
 clear hb1 hbw1 hsz1
 have c0 := H1.out.at_ A1.out
 have c1 := H1.out.at_ A2.out
 have c2 := H1.out.at_ A3.out
 have w1' := fun w => hwithin_any e.shard 0 63 w
 have w2' := fun w => hwithin_any e.height 1 1099511627776 w
 have w3' := fun w => hwithin_any e.epoch 0 1099511627776 w
 have HRE : Hid (res = (inB e.shard 0 63 && inB e.height 1 1099511627776 && inB e.epoch 0 1099511627776)) := HRES
 obtain ⟨b1, hb1⟩ : ∃ b1, b1 = inB e.shard 0 63 := ⟨_, rfl⟩
 obtain ⟨b2, hb2⟩ : ∃ b2, b2 = inB e.height 1 1099511627776 := ⟨_, rfl⟩
 obtain ⟨b3, hb3⟩ : ∃ b3, b3 = inB e.epoch 0 1099511627776 := ⟨_, rfl⟩
 rw [← hb1, ← hb2, ← hb3] at HRE
 have W1 := kp (show ∀ w, Calls Tryz.prog 77 #[.int .i64 e.shard, .int .i64 0, .int .i64 63] w fun en w' => en = .returned (.bool b1) ∧ w = w' by rw [hb1]; exact w1')
 have W2 := kp (show ∀ w, Calls Tryz.prog 77 #[.int .i64 e.height, .int .i64 1, .int .i64 1099511627776] w fun en w' => en = .returned (.bool b2) ∧ w = w' by rw [hb2]; exact w2')
 have W3 := kp (show ∀ w, Calls Tryz.prog 77 #[.int .i64 e.epoch, .int .i64 0, .int .i64 1099511627776] w fun en w' => en = .returned (.bool b3) ∧ w = w' by rw [hb3]; exact w3')
 clear hb1 hb2 hb3 w1' w2' w3'
 generalize e.shard = k1 at *
 generalize e.height = k2 at *
 generalize e.epoch = k3 at *
 cases r
 ·clear HZ HRES
  cases b1
  ·go_wp2_with (first | (with_reducible refine wpl_loadb (o := ⟨some 3, _, _, _, _, _⟩) rfl rfl row_header H1.out rfl HL.out ?_))
   go_wp2_with fail
   refine (W1.out _).mono ?_
   rintro e w_ ⟨rfl, rfl⟩
   go_wp2_with fail
   go_ret
   exact ⟨ret_bool (by rw [HRE.out]; rfl), by rw [← HG.out]; exact HB.out⟩
  cases b2
  ·go_wp2_with (first | (with_reducible refine wpl_loadb (o := ⟨some 3, _, _, _, _, _⟩) rfl rfl row_header H1.out rfl HL.out ?_))
   go_wp2_with fail
   refine (W1.out _).mono ?_
   rintro e w_ ⟨rfl, rfl⟩
   go_wp2_with fail
   refine (W2.out _).mono ?_
   rintro e w_ ⟨rfl, rfl⟩
   go_wp2_with fail
   go_ret
   exact ⟨ret_bool (by rw [HRE.out]; rfl), by rw [← HG.out]; exact HB.out⟩
  ·go_wp2_with (first | (with_reducible refine wpl_loadb (o := ⟨some 3, _, _, _, _, _⟩) rfl rfl row_header H1.out rfl HL.out ?_))
   go_wp2_with fail
   refine (W1.out _).mono ?_
   rintro e w_ ⟨rfl, rfl⟩
   go_wp2_with fail
   refine (W2.out _).mono ?_
   rintro e w_ ⟨rfl, rfl⟩
   go_wp2_with fail
   refine (W3.out _).mono ?_
   rintro e w_ ⟨rfl, rfl⟩
   go_wp2_with fail
   go_ret
   exact ⟨ret_bool (by rw [HRE.out]; simp), by rw [← HG.out]; exact HB.out⟩
 ·have hf : res = false := HRES.out.trans (by simpa using HZ.out)
  have HF := kp hf
  clear hf
  go_wp2_with (first | (with_reducible refine wpl_loadb (o := ⟨some 3, _, _, _, _, _⟩) rfl rfl row_header H1.out rfl HL.out ?_))
  go_ret
  exact ⟨ret_bool (by rw [HF.out]), by rw [← HG.out]; exact HB.out⟩
end Go.Proofs.YtphmefhnffoafaaGreatDoor

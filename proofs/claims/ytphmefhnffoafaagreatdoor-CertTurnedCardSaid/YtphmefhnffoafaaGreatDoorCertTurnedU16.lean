/- Layer 5: the path, in the program and in the document's answer. -/
import Derived.Test.YtphmefhnffoafaaGreatDoorCertTurnedU13
import Derived.Test.YtphmefhnffoafaaGreatDoorCertTurnedU15
import Derived.Test.YtphmefhnffoafaaGreatDoorCertTurnedU10
set_option linter.unusedSimpArgs false
namespace Go.Proofs.YtphmefhnffoafaaGreatDoor
open Go.RowKit Go.Shelf
set_option linter.unusedVariables false
def pathB (l : List (List UInt8)) (i : Nat) : List (List UInt8) :=
 if h : l.length < 2 ∨ l.length ≤ i then [] else
 if i < halfN l.length then pathB (l.take (halfN l.length)) i ++ [rootB (l.drop (halfN l.length))] else pathB (l.drop (halfN l.length)) (i - halfN l.length) ++ [rootB (l.take (halfN l.length))]
termination_by l.length
decreasing_by
 ·rw [List.length_take]; have := halfN_lt (n := l.length) (by omega); omega
 ·rw [List.length_drop]; have := halfN_pos l.length; omega
theorem pathB_none (l : List (List UInt8)) (i : Nat) (h : l.length < 2 ∨ l.length ≤ i) : pathB l i = [] := by rw [pathB, dif_pos h]
theorem pathB_left (l : List (List UInt8)) (i : Nat) (h : 2 ≤ l.length) (h2 : i < halfN l.length) : pathB l i = pathB (l.take (halfN l.length)) i ++ [rootB (l.drop (halfN l.length))] := by
 rw [pathB, dif_neg (by have := halfN_lt h; omega), if_pos h2]
theorem pathB_right (l : List (List UInt8)) (i : Nat) (h : 2 ≤ l.length) (hi : i < l.length) (h2 : ¬ i < halfN l.length) : pathB l i = pathB (l.drop (halfN l.length)) (i - halfN l.length) ++ [rootB (l.take (halfN l.length))] := by
 rw [pathB, dif_neg (by omega), if_neg h2]
theorem pathB_le : ∀ (N : Nat) (l : List (List UInt8)) (i : Nat), l.length ≤ N → (pathB l i).length ≤ N := by
 intro N
 induction N with
 | zero => intro l i h; rw [pathB_none l i (by omega)]; simp
 | succ N ih =>
  intro l i h
  by_cases h0 : l.length < 2 ∨ l.length ≤ i
  ·rw [pathB_none l i h0]; simp
  ·have h2 : 2 ≤ l.length := by omega
   have hk1 := halfN_pos l.length
   have hk2 := halfN_lt h2
   by_cases h3 : i < halfN l.length
   ·rw [pathB_left l i h2 h3, List.length_append]
    have := ih (l.take (halfN l.length)) i (by rw [List.length_take]; omega)
    simp; omega
   ·rw [pathB_right l i h2 (by omega) h3, List.length_append]
    have := ih (l.drop (halfN l.length)) (i - halfN l.length) (by rw [List.length_drop]; omega)
    simp; omega
theorem pathB_32 : ∀ (N : Nat) (l : List (List UInt8)) (i : Nat), l.length ≤ N → ∀ d ∈ pathB l i, d.length = 32 := by
 intro N
 induction N with
 | zero => intro l i h; rw [pathB_none l i (by omega)]; intro d hd; cases hd
 | succ N ih =>
  intro l i h
  by_cases h0 : l.length < 2 ∨ l.length ≤ i
  ·rw [pathB_none l i h0]; intro d hd; cases hd
  ·have h2 : 2 ≤ l.length := by omega
   have hk1 := halfN_pos l.length
   have hk2 := halfN_lt h2
   by_cases h3 : i < halfN l.length
   ·rw [pathB_left l i h2 h3]
    intro d hd
    rcases List.mem_append.1 hd with hd | hd
    ·exact ih _ i (by rw [List.length_take]; omega) d hd
    ·simp only [List.mem_singleton] at hd; subst hd; exact rootB_len _
   ·rw [pathB_right l i h2 (by omega) h3]
    intro d hd
    rcases List.mem_append.1 hd with hd | hd
    ·exact ih _ _ (by rw [List.length_drop]; omega) d hd
    ·simp only [List.mem_singleton] at hd; subst hd; exact rootB_len _
def pathI (l : List (List UInt8)) (i : Int) : List (List UInt8) := if i < 0 then [] else pathB l i.toNat
theorem pathI_nat (l : List (List UInt8)) (i : Nat) : pathI l (i : Int) = pathB l i := by unfold pathI; rw [if_neg (by omega)]; rfl
theorem pathI_le (l : List (List UInt8)) (i : Int) : (pathI l i).length ≤ l.length := by
 unfold pathI; split
 ·simp
 ·exact pathB_le _ _ _ (Nat.le_refl _)
theorem pathI_32 (l : List (List UInt8)) (i : Int) : ∀ d ∈ pathI l i, d.length = 32 := by
 unfold pathI; split
 ·intro d hd; cases hd
 ·exact pathB_32 _ _ _ (Nat.le_refl _)
def OwnI (w : World) (base : Nat) (A : Option Addr) (n c : Nat) (ds : List (List UInt8)) : Prop := w.ownsRow base 24 32 (.slice A n c) n (idCells ds)
theorem OwnI.grow {w w' : World} {base n c : Nat} {A : Option Addr} {ds : List (List UInt8)} (h : OwnI w base A n c ds) (k : Grow w w') : OwnI w' base A n c ds := own_below h k
attribute [local irreducible] pathI
set_option maxRecDepth 100000 in
set_option maxHeartbeats 2000000 in
theorem path_any : ∀ (N n c : Nat) (A : Option Addr) (ps : List (Value × List UInt8)) (i : Int) (ds : List (List UInt8)) (w : World), n ≤ N → pathI (ps.map Prod.snd) i = ds → Parts w w.heap.size A n ps → n ≤ c → n ≤ 1000000 → (∀ p ∈ ps, p.2.length ≤ 1000000) → Tabs w →
  Calls Tryz.prog 50 #[.slice A n c, .int .i64 i] w fun e w' => ∃ A' c', e = .returned (.slice A' ds.length c') ∧ OwnI w' w.heap.size A' ds.length c' ds ∧ Below w.heap.size w w' := by
 intro N
 induction N with
 | zero =>
  intro n c A ps i ds w hnN hds hp hc hn hl ht
  obtain rfl : n = 0 := by omega
  obtain rfl : ds = [] := by rw [← hds]; exact List.eq_nil_of_length_eq_zero (by have := pathI_le (ps.map Prod.snd) i; rw [List.length_map, hp.len] at this; omega)
  clear ht hds hp hl
  by_cases hi : i < 0
  ·have g1 : decide (i < 0) = true := by simpa using hi
   go_enter Tryz.func50, Tryz.ntmps50
   go_wp2_with fail
   go_ret
   exact ⟨none, 0, rfl, World.ownsRow_nil _ _ _ _, Below.refl _ _⟩
  ·have g1 : decide (i < 0) = false := by simpa using hi
   have g2 : decide (0 ≤ i) = true := by simp; omega
   go_enter Tryz.func50, Tryz.ntmps50
   go_wp2_with fail
   go_ret
   exact ⟨none, 0, rfl, World.ownsRow_nil _ _ _ _, Below.refl _ _⟩
 | succ N ih =>
  intro n c A ps i ds w hnN hds hp hc hn hl ht
  by_cases hz : n ≤ N
  ·exact ih n c A ps i ds w hz hds hp hc hn hl ht
  have hnN1 : n = N + 1 := by omega
  have HN := kp hp.len
  by_cases h0 : i < 0 ∨ (n : Int) ≤ i ∨ n < 2
  ·obtain rfl : ds = [] := by
    rw [← hds]
    unfold pathI
    split
    ·rfl
    ·exact pathB_none _ _ (by rw [List.length_map, HN.out]; omega)
   clear ht hds hp hl ih
   have hN1 : 1 ≤ n := by omega
   clear hnN1 hz hnN
   by_cases hi : i < 0
   ·have g1 : decide (i < 0) = true := by simpa using hi
    go_enter Tryz.func50, Tryz.ntmps50
    go_wp2_with fail
    go_ret
    exact ⟨none, 0, rfl, World.ownsRow_nil _ _ _ _, Below.refl _ _⟩
   ·have g1 : decide (i < 0) = false := by simpa using hi
    by_cases hi2 : (n : Int) ≤ i
    ·have g2 : decide ((n : Int) ≤ i) = true := by simpa using hi2
     go_enter Tryz.func50, Tryz.ntmps50
     go_wp2_with fail
     go_ret
     exact ⟨none, 0, rfl, World.ownsRow_nil _ _ _ _, Below.refl _ _⟩
    ·have g2 : decide ((n : Int) ≤ i) = false := by simpa using hi2
     obtain rfl : n = 1 := by omega
     go_enter Tryz.func50, Tryz.ntmps50
     go_wp2_with fail
     go_ret
     exact ⟨none, 0, rfl, World.ownsRow_nil _ _ _ _, Below.refl _ _⟩
  have h2 : 2 ≤ n := by omega
  obtain ⟨a, rfl⟩ : ∃ a : Nat, i = (a : Int) := ⟨i.toNat, by omega⟩
  have han : a < n := by omega
  clear h0
  have HT := kp ht; have HP := kp hp
  have HB := kp (Below.refl w.heap.size w)
  have HIH := kp ih
  obtain ⟨k, hk⟩ : ∃ k, k = halfN n := ⟨_, rfl⟩
  have hk1 : 1 ≤ k := by rw [hk]; exact halfN_pos n
  have hk2 : k < n := by rw [hk]; exact halfN_lt h2
  have hkn : k ≤ n := Nat.le_of_lt hk2
  have hkc : k ≤ c := by omega
  have HK := kp hk
  have hkN : k ≤ N := by omega
  have hdN : n - k ≤ N := by omega
  have hN1 : N + 1 ≤ n := by omega
  have hn16 : n ≤ 16777216 := by omega
  have HLM := kp (show (ps.map Prod.snd).length = n by rw [List.length_map]; exact HN.out)
  have HL1 := kp (show ∀ p ∈ ps.take k, p.2.length ≤ 1000000 from fun p hp => hl p (List.mem_of_mem_take hp))
  have HL2 := kp (show ∀ p ∈ ps.drop k, p.2.length ≤ 1000000 from fun p hp => hl p (List.mem_of_mem_drop hp))
  have g1 : decide ((a : Int) < 0) = false := by simp
  have g2 : decide ((n : Int) ≤ (a : Int)) = false := by simp; omega
  have z2 : ((n : Int) == 1) = false := by simp; omega
  have z4 : decide ((n : Int) = 1) = false := by simp; omega
  have z6 : (n == 1) = false := by simp; omega
  have z8 : decide (n = 1) = false := by simp; omega
  rw [pathI_nat] at hds
  clear ht hp hl ih hnN1 hz hnN
  by_cases hak : a < k
  ·have g3 : decide ((a : Int) < (k : Int)) = true := by simp; omega
   obtain ⟨ds1, hds1⟩ : ∃ d, pathI ((ps.take k).map Prod.snd) (a : Int) = d := ⟨_, rfl⟩
   obtain ⟨xs2, hd2⟩ := dig_root ((ps.drop k).map Prod.snd)
   have HD2 := kp hd2; have HDS1 := kp hds1
   have hlen1 : ds1.length ≤ k := by have := pathI_le ((ps.take k).map Prod.snd) a; rw [hds1, List.length_map, List.length_take] at this; omega
   have HDS := kp (show ds1 ++ [rootB ((ps.drop k).map Prod.snd)] = ds by
    rw [pathB_left _ _ (by rw [HLM.out]; exact h2) (by rw [HLM.out, ← hk]; exact hak), HLM.out, ← hk, ← List.map_take, ← List.map_drop, ← pathI_nat, hds1] at hds
    exact hds)
   clear hds hds1 hd2 hk
   go_enter Tryz.func50, Tryz.ntmps50
   go_wp2_with fail
   refine (first_any n _ h2 hn16).mono ?_
   rintro e w1 ⟨rfl, hw1⟩
   rw [hw1, ← HK.out]
   clear hw1
   clear w1
   try go_wp2_with fail
   repeat' (first | (with_reducible refine wp_plan (id := 5) Grow [0,0,0,0,3,0,0,0,3,3,3,0] (.get 0 (.get 1 (.get 2 (.get 3 (.get 5 (.get 6 (.get 7 (.act 4 (.act 8 (.act 9 (.act 10 (.get 11 .done)))))))))))) (by kernel_rfl) (by kernel_rfl) Grow.refl Grow.trans ?_) | go_values | go_skip | go_guarded | go_step | go_upon | go_back)
   intro w_ hd_
   have hb_ := hd_.grow
   replace HB := kp (HB.out.grow' hb_)
   replace HT := kp (HT.out.grow hb_)
   replace HP := kp (HP.out.grow hb_)
   clear hb_ hd_
   repeat ((first | refine pl_calm rfl rfl (by first | exact wanted_none rfl | (go_simp; done) | rfl) (fun w_ => by first | (go_simp; rfl) | (go_simp; done) | rfl) (fun K hK => ?_) | refine pl_skip rfl (by first | (go_simp; done) | rfl) (fun K hK => ?_) | refine pl_skipa rfl (by first | (go_simp; done) | rfl) (fun K hK => ?_)); go_simp; refine hK _ _ ?_; clear hK K)
   have HP1 := kp (HP.out.to1 hkn)
   have HP2 := kp (HP.out.from1 hkn hc)
   generalize (if c = k then A else Option.map (fun x => x.add k) A) = A2 at HP2 ⊢
   have HLE := kp HB.out.size
   refine pl_act rfl (by first | exact wanted_none rfl | (go_simp; done) | rfl) (fun K hK => ?_)
   go_wp2_with fail
   refine (HIH.out k c A (ps.take k) a ds1 _ (by omega) HDS1.out HP1.out hkc (by omega) HL1.out HT.out).mono ?_
   rintro e w_ ⟨A3, c3, rfl, ho_, hb_⟩
   go_wp2_with fail
   refine hK _ _ (fun _ => hb_) ?_
   clear hK K
   replace HB := kp (HB.out.grow' hb_)
   replace HT := kp (HT.out.grow hb_)
   replace HP2 := kp (HP2.out.grow hb_)
   clear hb_
   have HO := kp (show OwnI w_ w.heap.size A3 ds1.length c3 ds1 from own_base ho_ HLE.out)
   clear ho_ HLE
   refine pl_act rfl (by first | exact wanted_none rfl | (go_simp; done) | rfl) (fun K hK => ?_)
   go_wp2_with fail
   refine (root_any (n - k) (n - k) (c - k) A2 (ps.drop k) xs2 _ (Nat.le_refl _) HD2.out HP2.out (by omega) (by omega) HL2.out HT.out).mono ?_
   rintro e w_ ⟨rfl, hb_⟩
   go_wp2_with fail
   refine hK _ _ (fun _ => hb_) ?_
   clear hK K
   replace HB := kp (HB.out.grow' hb_)
   replace HO := kp (HO.out.grow hb_)
   clear hb_
   have hysl := HD2.out.len
   refine pl_act rfl (by first | exact wanted_none rfl | (go_simp; done) | rfl) (fun K hK => ?_)
   go_wp2_with fail
   generalize hw_ : World.alloc w_ _ = w2_
   obtain ⟨hX_, hb_, hs_⟩ := alloc_eq hw_
   generalize hg_ : w_.heap.size = g2 at hX_ hs_ ⊢
   refine hK _ _ (fun _ => hb_) ?_
   have HX2 := kp hX_
   clear hK K hw_ hX_
   replace HB := kp (HB.out.grow' hb_)
   replace HO := kp (HO.out.grow hb_)
   clear hb_ hg_ hs_
   clear w_
   rename World => w_
   clear hysl
   have HSX := kp (show Sl w_ w_.heap.size 32 (some ⟨g2, 0, none⟩) 1 xs2 from (show Blk w_ g2 24 xs2 by have h := HX2.out; rw [fold_set _ xs2 (by rw [HD2.out.len]; rfl)] at h; exact h).sl (by rw [HD2.out.len]))
   clear HX2
   refine pl_act rfl (by exact wanted_none rfl) (fun K hK => ?_)
   show wpList _ _ _ [⟨some _, .call _, _, _, _, _⟩] _ _
   go_wp2_with (at_builtin; refine wpl_apps rfl rfl el_id HO.out rfl HSX.out rfl HD2.out.one (by omega) (by omega) HB.out.size ?_)
   intro A4 c4 w4 ho hg hA
   have HB4 := kp (app_below HB.out HO.out hg)
   have HO4 := kp (show OwnI w4 w.heap.size A4 (ds1.length + 1) c4 (ds1 ++ [rootB ((ps.drop k).map Prod.snd)]) by unfold OwnI; rw [idCells_snoc, ← HD2.out.1]; exact ho)
   clear ho hg hA HSX HO HB
   go_wp2_with fail
   refine hK _ _ (fun h => by cases h) ?_
   clear hK K
   repeat ((first | refine pl_calm rfl rfl (by first | exact wanted_none rfl | (go_simp; done) | rfl) (fun w_ => by first | (go_simp; rfl) | (go_simp; done) | rfl) (fun K hK => ?_) | refine pl_skip rfl (by first | (go_simp; done) | rfl) (fun K hK => ?_) | refine pl_skipa rfl (by first | (go_simp; done) | rfl) (fun K hK => ?_)); go_simp; refine hK _ _ ?_; clear hK K)
   refine pl_done ?_
   go_wp2_with fail
   go_ret
   have HE := HDS.out
   refine ⟨A4, c4, ?_, ?_, HB4.out⟩
   ·rw [← HE, List.length_append]; rfl
   ·rw [← HE, List.length_append]; exact HO4.out
  ·have g3 : decide ((a : Int) < (k : Int)) = false := by simp; omega
   obtain ⟨ds1, hds1⟩ : ∃ d, pathI ((ps.drop k).map Prod.snd) ((a : Int) - (k : Int)) = d := ⟨_, rfl⟩
   obtain ⟨xs2, hd2⟩ := dig_root ((ps.take k).map Prod.snd)
   have HD2 := kp hd2; have HDS1 := kp hds1
   have hlen1 : ds1.length ≤ n - k := by have := pathI_le ((ps.drop k).map Prod.snd) ((a : Int) - (k : Int)); rw [hds1, List.length_map, List.length_drop, HN.out] at this; omega
   have HDS := kp (show ds1 ++ [rootB ((ps.take k).map Prod.snd)] = ds by
    rw [show (a : Int) - (k : Int) = ((a - k : Nat) : Int) by omega, pathI_nat] at hds1
    rw [pathB_right _ _ (by rw [HLM.out]; exact h2) (by rw [HLM.out]; exact han) (by rw [HLM.out, ← hk]; exact hak), HLM.out, ← hk, ← List.map_take, ← List.map_drop, hds1] at hds
    exact hds)
   clear hds hds1 hd2 hk
   go_enter Tryz.func50, Tryz.ntmps50
   go_wp2_with fail
   refine (first_any n _ h2 hn16).mono ?_
   rintro e w1 ⟨rfl, hw1⟩
   rw [hw1, ← HK.out]
   clear hw1
   clear w1
   try go_wp2_with fail
   repeat' (first | (with_reducible refine wp_plan (id := 6) Grow [0,0,0,0,0,0,3,0,0,0,3,3,3,0] (.get 0 (.get 1 (.get 2 (.get 3 (.get 4 (.get 5 (.get 7 (.get 8 (.get 9 (.act 6 (.act 10 (.act 11 (.act 12 (.get 13 .done)))))))))))))) (by kernel_rfl) (by kernel_rfl) Grow.refl Grow.trans ?_) | go_values | go_skip | go_guarded | go_step | go_upon | go_back)
   intro w_ hd_
   have hb_ := hd_.grow
   replace HB := kp (HB.out.grow' hb_)
   replace HT := kp (HT.out.grow hb_)
   replace HP := kp (HP.out.grow hb_)
   clear hb_ hd_
   repeat ((first | refine pl_calm rfl rfl (by first | exact wanted_none rfl | (go_simp; done) | rfl) (fun w_ => by first | (go_simp; rfl) | (go_simp; done) | rfl) (fun K hK => ?_) | refine pl_skip rfl (by first | (go_simp; done) | rfl) (fun K hK => ?_) | refine pl_skipa rfl (by first | (go_simp; done) | rfl) (fun K hK => ?_)); go_simp; refine hK _ _ ?_; clear hK K)
   have HP1 := kp (HP.out.to1 hkn)
   have HP2 := kp (HP.out.from1 hkn hc)
   generalize (if c = k then A else Option.map (fun x => x.add k) A) = A2 at HP2 ⊢
   have HLE := kp HB.out.size
   refine pl_act rfl (by first | exact wanted_none rfl | (go_simp; done) | rfl) (fun K hK => ?_)
   go_wp2_with fail
   refine (HIH.out (n - k) (c - k) A2 (ps.drop k) ((a : Int) - (k : Int)) ds1 _ (by omega) HDS1.out HP2.out (by omega) (by omega) HL2.out HT.out).mono ?_
   rintro e w_ ⟨A3, c3, rfl, ho_, hb_⟩
   go_wp2_with fail
   refine hK _ _ (fun _ => hb_) ?_
   clear hK K
   replace HB := kp (HB.out.grow' hb_)
   replace HT := kp (HT.out.grow hb_)
   replace HP1 := kp (HP1.out.grow hb_)
   clear hb_
   have HO := kp (show OwnI w_ w.heap.size A3 ds1.length c3 ds1 from own_base ho_ HLE.out)
   clear ho_ HLE
   refine pl_act rfl (by first | exact wanted_none rfl | (go_simp; done) | rfl) (fun K hK => ?_)
   go_wp2_with fail
   refine (root_any k k c A (ps.take k) xs2 _ (Nat.le_refl _) HD2.out HP1.out hkc (by omega) HL1.out HT.out).mono ?_
   rintro e w_ ⟨rfl, hb_⟩
   go_wp2_with fail
   refine hK _ _ (fun _ => hb_) ?_
   clear hK K
   replace HB := kp (HB.out.grow' hb_)
   replace HO := kp (HO.out.grow hb_)
   clear hb_
   have hysl := HD2.out.len
   refine pl_act rfl (by first | exact wanted_none rfl | (go_simp; done) | rfl) (fun K hK => ?_)
   go_wp2_with fail
   generalize hw_ : World.alloc w_ _ = w2_
   obtain ⟨hX_, hb_, hs_⟩ := alloc_eq hw_
   generalize hg_ : w_.heap.size = g2 at hX_ hs_ ⊢
   refine hK _ _ (fun _ => hb_) ?_
   have HX2 := kp hX_
   clear hK K hw_ hX_
   replace HB := kp (HB.out.grow' hb_)
   replace HO := kp (HO.out.grow hb_)
   clear hb_ hg_ hs_
   clear w_
   rename World => w_
   clear hysl
   have HSX := kp (show Sl w_ w_.heap.size 32 (some ⟨g2, 0, none⟩) 1 xs2 from (show Blk w_ g2 24 xs2 by have h := HX2.out; rw [fold_set _ xs2 (by rw [HD2.out.len]; rfl)] at h; exact h).sl (by rw [HD2.out.len]))
   clear HX2
   refine pl_act rfl (by exact wanted_none rfl) (fun K hK => ?_)
   show wpList _ _ _ [⟨some _, .call _, _, _, _, _⟩] _ _
   go_wp2_with (at_builtin; refine wpl_apps rfl rfl el_id HO.out rfl HSX.out rfl HD2.out.one (by omega) (by omega) HB.out.size ?_)
   intro A4 c4 w4 ho hg hA
   have HB4 := kp (app_below HB.out HO.out hg)
   have HO4 := kp (show OwnI w4 w.heap.size A4 (ds1.length + 1) c4 (ds1 ++ [rootB ((ps.take k).map Prod.snd)]) by unfold OwnI; rw [idCells_snoc, ← HD2.out.1]; exact ho)
   clear ho hg hA HSX HO HB
   go_wp2_with fail
   refine hK _ _ (fun h => by cases h) ?_
   clear hK K
   repeat ((first | refine pl_calm rfl rfl (by first | exact wanted_none rfl | (go_simp; done) | rfl) (fun w_ => by first | (go_simp; rfl) | (go_simp; done) | rfl) (fun K hK => ?_) | refine pl_skip rfl (by first | (go_simp; done) | rfl) (fun K hK => ?_) | refine pl_skipa rfl (by first | (go_simp; done) | rfl) (fun K hK => ?_)); go_simp; refine hK _ _ ?_; clear hK K)
   refine pl_done ?_
   go_wp2_with fail
   go_ret
   have HE := HDS.out
   refine ⟨A4, c4, ?_, ?_, HB4.out⟩
   ·rw [← HE, List.length_append]; rfl
   ·rw [← HE, List.length_append]; exact HO4.out
set_option maxRecDepth 100000 in
set_option maxHeartbeats 2000000 in
theorem rpath_any : ∀ (N n c : Nat) (A : Option Addr) (ps : List (Value × List UInt8)) (i : Int) (ds : List (List UInt8)) (w : World), n ≤ N → pathI (ps.map Prod.snd) i = ds → Parts w w.heap.size A n ps → n ≤ c → n ≤ 1000000 → (∀ p ∈ ps, p.2.length ≤ 1000000) → Tabs w →
  Calls Tryz.prog 19 #[.slice A n c, .int .i64 i] w fun e w' => ∃ A' c', e = .returned (.slice A' ds.length c') ∧ OwnI w' w.heap.size A' ds.length c' ds ∧ Below w.heap.size w w' := by
 intro N
 induction N with
 | zero =>
  intro n c A ps i ds w hnN hds hp hc hn hl ht
  obtain rfl : n = 0 := by omega
  obtain rfl : ds = [] := by rw [← hds]; exact List.eq_nil_of_length_eq_zero (by have := pathI_le (ps.map Prod.snd) i; rw [List.length_map, hp.len] at this; omega)
  clear ht hds hp hl
  by_cases hi : i < 0
  ·have g1 : decide (i < 0) = true := by simpa using hi
   go_enter Tryz.func19, Tryz.ntmps19
   go_wp2_with fail
   go_ret
   exact ⟨none, 0, rfl, World.ownsRow_nil _ _ _ _, Below.refl _ _⟩
  ·have g1 : decide (i < 0) = false := by simpa using hi
   have g2 : decide (0 ≤ i) = true := by simp; omega
   go_enter Tryz.func19, Tryz.ntmps19
   go_wp2_with fail
   go_ret
   exact ⟨none, 0, rfl, World.ownsRow_nil _ _ _ _, Below.refl _ _⟩
 | succ N ih =>
  intro n c A ps i ds w hnN hds hp hc hn hl ht
  by_cases hz : n ≤ N
  ·exact ih n c A ps i ds w hz hds hp hc hn hl ht
  have hnN1 : n = N + 1 := by omega
  have HN := kp hp.len
  by_cases h0 : i < 0 ∨ (n : Int) ≤ i ∨ n < 2
  ·obtain rfl : ds = [] := by
    rw [← hds]
    unfold pathI
    split
    ·rfl
    ·exact pathB_none _ _ (by rw [List.length_map, HN.out]; omega)
   clear ht hds hp hl ih
   have hN1 : 1 ≤ n := by omega
   clear hnN1 hz hnN
   by_cases hi : i < 0
   ·have g1 : decide (i < 0) = true := by simpa using hi
    go_enter Tryz.func19, Tryz.ntmps19
    go_wp2_with fail
    go_ret
    exact ⟨none, 0, rfl, World.ownsRow_nil _ _ _ _, Below.refl _ _⟩
   ·have g1 : decide (i < 0) = false := by simpa using hi
    by_cases hi2 : (n : Int) ≤ i
    ·have g2 : decide ((n : Int) ≤ i) = true := by simpa using hi2
     go_enter Tryz.func19, Tryz.ntmps19
     go_wp2_with fail
     go_ret
     exact ⟨none, 0, rfl, World.ownsRow_nil _ _ _ _, Below.refl _ _⟩
    ·have g2 : decide ((n : Int) ≤ i) = false := by simpa using hi2
     obtain rfl : n = 1 := by omega
     go_enter Tryz.func19, Tryz.ntmps19
     go_wp2_with fail
     go_ret
     exact ⟨none, 0, rfl, World.ownsRow_nil _ _ _ _, Below.refl _ _⟩
  have h2 : 2 ≤ n := by omega
  obtain ⟨a, rfl⟩ : ∃ a : Nat, i = (a : Int) := ⟨i.toNat, by omega⟩
  have han : a < n := by omega
  clear h0
  have HT := kp ht; have HP := kp hp
  have HB := kp (Below.refl w.heap.size w)
  have HIH := kp ih
  obtain ⟨k, hk⟩ : ∃ k, k = halfN n := ⟨_, rfl⟩
  have hk1 : 1 ≤ k := by rw [hk]; exact halfN_pos n
  have hk2 : k < n := by rw [hk]; exact halfN_lt h2
  have hkn : k ≤ n := Nat.le_of_lt hk2
  have hkc : k ≤ c := by omega
  have HK := kp hk
  have hkN : k ≤ N := by omega
  have hdN : n - k ≤ N := by omega
  have hN1 : N + 1 ≤ n := by omega
  have hn16 : n ≤ 16777216 := by omega
  have HLM := kp (show (ps.map Prod.snd).length = n by rw [List.length_map]; exact HN.out)
  have HL1 := kp (show ∀ p ∈ ps.take k, p.2.length ≤ 1000000 from fun p hp => hl p (List.mem_of_mem_take hp))
  have HL2 := kp (show ∀ p ∈ ps.drop k, p.2.length ≤ 1000000 from fun p hp => hl p (List.mem_of_mem_drop hp))
  have g1 : decide ((a : Int) < 0) = false := by simp
  have g2 : decide ((n : Int) ≤ (a : Int)) = false := by simp; omega
  have z2 : decide ((n : Int) < 2) = false := by simp; omega
  rw [pathI_nat] at hds
  clear ht hp hl ih hnN1 hz hnN
  by_cases hak : a < k
  ·have g3 : decide ((a : Int) < (k : Int)) = true := by simp; omega
   obtain ⟨ds1, hds1⟩ : ∃ d, pathI ((ps.take k).map Prod.snd) (a : Int) = d := ⟨_, rfl⟩
   obtain ⟨xs2, hd2⟩ := dig_root ((ps.drop k).map Prod.snd)
   have HD2 := kp hd2; have HDS1 := kp hds1
   have hlen1 : ds1.length ≤ k := by have := pathI_le ((ps.take k).map Prod.snd) a; rw [hds1, List.length_map, List.length_take] at this; omega
   have HDS := kp (show ds1 ++ [rootB ((ps.drop k).map Prod.snd)] = ds by
    rw [pathB_left _ _ (by rw [HLM.out]; exact h2) (by rw [HLM.out, ← hk]; exact hak), HLM.out, ← hk, ← List.map_take, ← List.map_drop, ← pathI_nat, hds1] at hds
    exact hds)
   clear hds hds1 hd2 hk
   go_enter Tryz.func19, Tryz.ntmps19
   go_wp2_with fail
   refine (half_any n _ h2 hn16).mono ?_
   rintro e w1 ⟨rfl, hw1⟩
   rw [hw1, ← HK.out]
   clear hw1
   clear w1
   try go_wp2_with fail
   repeat' (first | (with_reducible refine wp_plan (id := 5) Grow [0,0,0,0,3,0,0,0,3,3,3,0] (.get 0 (.get 1 (.get 2 (.get 3 (.get 5 (.get 6 (.get 7 (.act 4 (.act 8 (.act 9 (.act 10 (.get 11 .done)))))))))))) (by kernel_rfl) (by kernel_rfl) Grow.refl Grow.trans ?_) | go_values | go_skip | go_guarded | go_step | go_upon | go_back)
   intro w_ hd_
   have hb_ := hd_.grow
   replace HB := kp (HB.out.grow' hb_)
   replace HT := kp (HT.out.grow hb_)
   replace HP := kp (HP.out.grow hb_)
   clear hb_ hd_
   repeat ((first | refine pl_calm rfl rfl (by first | exact wanted_none rfl | (go_simp; done) | rfl) (fun w_ => by first | (go_simp; rfl) | (go_simp; done) | rfl) (fun K hK => ?_) | refine pl_skip rfl (by first | (go_simp; done) | rfl) (fun K hK => ?_) | refine pl_skipa rfl (by first | (go_simp; done) | rfl) (fun K hK => ?_)); go_simp; refine hK _ _ ?_; clear hK K)
   have HP1 := kp (HP.out.to1 hkn)
   have HP2 := kp (HP.out.from1 hkn hc)
   generalize (if c = k then A else Option.map (fun x => x.add k) A) = A2 at HP2 ⊢
   have HLE := kp HB.out.size
   refine pl_act rfl (by first | exact wanted_none rfl | (go_simp; done) | rfl) (fun K hK => ?_)
   go_wp2_with fail
   refine (HIH.out k c A (ps.take k) a ds1 _ (by omega) HDS1.out HP1.out hkc (by omega) HL1.out HT.out).mono ?_
   rintro e w_ ⟨A3, c3, rfl, ho_, hb_⟩
   go_wp2_with fail
   refine hK _ _ (fun _ => hb_) ?_
   clear hK K
   replace HB := kp (HB.out.grow' hb_)
   replace HT := kp (HT.out.grow hb_)
   replace HP2 := kp (HP2.out.grow hb_)
   clear hb_
   have HO := kp (show OwnI w_ w.heap.size A3 ds1.length c3 ds1 from own_base ho_ HLE.out)
   clear ho_ HLE
   refine pl_act rfl (by first | exact wanted_none rfl | (go_simp; done) | rfl) (fun K hK => ?_)
   go_wp2_with fail
   refine (rroot_any (n - k) (n - k) (c - k) A2 (ps.drop k) xs2 _ (Nat.le_refl _) HD2.out HP2.out (by omega) (by omega) HL2.out HT.out).mono ?_
   rintro e w_ ⟨rfl, hb_⟩
   go_wp2_with fail
   refine hK _ _ (fun _ => hb_) ?_
   clear hK K
   replace HB := kp (HB.out.grow' hb_)
   replace HO := kp (HO.out.grow hb_)
   clear hb_
   have hysl := HD2.out.len
   refine pl_act rfl (by first | exact wanted_none rfl | (go_simp; done) | rfl) (fun K hK => ?_)
   go_wp2_with fail
   generalize hw_ : World.alloc w_ _ = w2_
   obtain ⟨hX_, hb_, hs_⟩ := alloc_eq hw_
   generalize hg_ : w_.heap.size = g2 at hX_ hs_ ⊢
   refine hK _ _ (fun _ => hb_) ?_
   have HX2 := kp hX_
   clear hK K hw_ hX_
   replace HB := kp (HB.out.grow' hb_)
   replace HO := kp (HO.out.grow hb_)
   clear hb_ hg_ hs_
   clear w_
   rename World => w_
   clear hysl
   have HSX := kp (show Sl w_ w_.heap.size 32 (some ⟨g2, 0, none⟩) 1 xs2 from (show Blk w_ g2 24 xs2 by have h := HX2.out; rw [fold_set _ xs2 (by rw [HD2.out.len]; rfl)] at h; exact h).sl (by rw [HD2.out.len]))
   clear HX2
   refine pl_act rfl (by exact wanted_none rfl) (fun K hK => ?_)
   show wpList _ _ _ [⟨some _, .call _, _, _, _, _⟩] _ _
   go_wp2_with (at_builtin; refine wpl_apps rfl rfl el_id HO.out rfl HSX.out rfl HD2.out.one (by omega) (by omega) HB.out.size ?_)
   intro A4 c4 w4 ho hg hA
   have HB4 := kp (app_below HB.out HO.out hg)
   have HO4 := kp (show OwnI w4 w.heap.size A4 (ds1.length + 1) c4 (ds1 ++ [rootB ((ps.drop k).map Prod.snd)]) by unfold OwnI; rw [idCells_snoc, ← HD2.out.1]; exact ho)
   clear ho hg hA HSX HO HB
   go_wp2_with fail
   refine hK _ _ (fun h => by cases h) ?_
   clear hK K
   repeat ((first | refine pl_calm rfl rfl (by first | exact wanted_none rfl | (go_simp; done) | rfl) (fun w_ => by first | (go_simp; rfl) | (go_simp; done) | rfl) (fun K hK => ?_) | refine pl_skip rfl (by first | (go_simp; done) | rfl) (fun K hK => ?_) | refine pl_skipa rfl (by first | (go_simp; done) | rfl) (fun K hK => ?_)); go_simp; refine hK _ _ ?_; clear hK K)
   refine pl_done ?_
   go_wp2_with fail
   go_ret
   have HE := HDS.out
   refine ⟨A4, c4, ?_, ?_, HB4.out⟩
   ·rw [← HE, List.length_append]; rfl
   ·rw [← HE, List.length_append]; exact HO4.out
  ·have g3 : decide ((a : Int) < (k : Int)) = false := by simp; omega
   obtain ⟨ds1, hds1⟩ : ∃ d, pathI ((ps.drop k).map Prod.snd) ((a : Int) - (k : Int)) = d := ⟨_, rfl⟩
   obtain ⟨xs2, hd2⟩ := dig_root ((ps.take k).map Prod.snd)
   have HD2 := kp hd2; have HDS1 := kp hds1
   have hlen1 : ds1.length ≤ n - k := by have := pathI_le ((ps.drop k).map Prod.snd) ((a : Int) - (k : Int)); rw [hds1, List.length_map, List.length_drop, HN.out] at this; omega
   have HDS := kp (show ds1 ++ [rootB ((ps.take k).map Prod.snd)] = ds by
    rw [show (a : Int) - (k : Int) = ((a - k : Nat) : Int) by omega, pathI_nat] at hds1
    rw [pathB_right _ _ (by rw [HLM.out]; exact h2) (by rw [HLM.out]; exact han) (by rw [HLM.out, ← hk]; exact hak), HLM.out, ← hk, ← List.map_take, ← List.map_drop, hds1] at hds
    exact hds)
   clear hds hds1 hd2 hk
   go_enter Tryz.func19, Tryz.ntmps19
   go_wp2_with fail
   refine (half_any n _ h2 hn16).mono ?_
   rintro e w1 ⟨rfl, hw1⟩
   rw [hw1, ← HK.out]
   clear hw1
   clear w1
   try go_wp2_with fail
   repeat' (first | (with_reducible refine wp_plan (id := 6) Grow [0,0,0,0,0,0,3,0,0,0,3,3,3,0] (.get 0 (.get 1 (.get 2 (.get 3 (.get 4 (.get 5 (.get 7 (.get 8 (.get 9 (.act 6 (.act 10 (.act 11 (.act 12 (.get 13 .done)))))))))))))) (by kernel_rfl) (by kernel_rfl) Grow.refl Grow.trans ?_) | go_values | go_skip | go_guarded | go_step | go_upon | go_back)
   intro w_ hd_
   have hb_ := hd_.grow
   replace HB := kp (HB.out.grow' hb_)
   replace HT := kp (HT.out.grow hb_)
   replace HP := kp (HP.out.grow hb_)
   clear hb_ hd_
   repeat ((first | refine pl_calm rfl rfl (by first | exact wanted_none rfl | (go_simp; done) | rfl) (fun w_ => by first | (go_simp; rfl) | (go_simp; done) | rfl) (fun K hK => ?_) | refine pl_skip rfl (by first | (go_simp; done) | rfl) (fun K hK => ?_) | refine pl_skipa rfl (by first | (go_simp; done) | rfl) (fun K hK => ?_)); go_simp; refine hK _ _ ?_; clear hK K)
   have HP1 := kp (HP.out.to1 hkn)
   have HP2 := kp (HP.out.from1 hkn hc)
   generalize (if c = k then A else Option.map (fun x => x.add k) A) = A2 at HP2 ⊢
   have HLE := kp HB.out.size
   refine pl_act rfl (by first | exact wanted_none rfl | (go_simp; done) | rfl) (fun K hK => ?_)
   go_wp2_with fail
   refine (HIH.out (n - k) (c - k) A2 (ps.drop k) ((a : Int) - (k : Int)) ds1 _ (by omega) HDS1.out HP2.out (by omega) (by omega) HL2.out HT.out).mono ?_
   rintro e w_ ⟨A3, c3, rfl, ho_, hb_⟩
   go_wp2_with fail
   refine hK _ _ (fun _ => hb_) ?_
   clear hK K
   replace HB := kp (HB.out.grow' hb_)
   replace HT := kp (HT.out.grow hb_)
   replace HP1 := kp (HP1.out.grow hb_)
   clear hb_
   have HO := kp (show OwnI w_ w.heap.size A3 ds1.length c3 ds1 from own_base ho_ HLE.out)
   clear ho_ HLE
   refine pl_act rfl (by first | exact wanted_none rfl | (go_simp; done) | rfl) (fun K hK => ?_)
   go_wp2_with fail
   refine (rroot_any k k c A (ps.take k) xs2 _ (Nat.le_refl _) HD2.out HP1.out hkc (by omega) HL1.out HT.out).mono ?_
   rintro e w_ ⟨rfl, hb_⟩
   go_wp2_with fail
   refine hK _ _ (fun _ => hb_) ?_
   clear hK K
   replace HB := kp (HB.out.grow' hb_)
   replace HO := kp (HO.out.grow hb_)
   clear hb_
   have hysl := HD2.out.len
   refine pl_act rfl (by first | exact wanted_none rfl | (go_simp; done) | rfl) (fun K hK => ?_)
   go_wp2_with fail
   generalize hw_ : World.alloc w_ _ = w2_
   obtain ⟨hX_, hb_, hs_⟩ := alloc_eq hw_
   generalize hg_ : w_.heap.size = g2 at hX_ hs_ ⊢
   refine hK _ _ (fun _ => hb_) ?_
   have HX2 := kp hX_
   clear hK K hw_ hX_
   replace HB := kp (HB.out.grow' hb_)
   replace HO := kp (HO.out.grow hb_)
   clear hb_ hg_ hs_
   clear w_
   rename World => w_
   clear hysl
   have HSX := kp (show Sl w_ w_.heap.size 32 (some ⟨g2, 0, none⟩) 1 xs2 from (show Blk w_ g2 24 xs2 by have h := HX2.out; rw [fold_set _ xs2 (by rw [HD2.out.len]; rfl)] at h; exact h).sl (by rw [HD2.out.len]))
   clear HX2
   refine pl_act rfl (by exact wanted_none rfl) (fun K hK => ?_)
   show wpList _ _ _ [⟨some _, .call _, _, _, _, _⟩] _ _
   go_wp2_with (at_builtin; refine wpl_apps rfl rfl el_id HO.out rfl HSX.out rfl HD2.out.one (by omega) (by omega) HB.out.size ?_)
   intro A4 c4 w4 ho hg hA
   have HB4 := kp (app_below HB.out HO.out hg)
   have HO4 := kp (show OwnI w4 w.heap.size A4 (ds1.length + 1) c4 (ds1 ++ [rootB ((ps.take k).map Prod.snd)]) by unfold OwnI; rw [idCells_snoc, ← HD2.out.1]; exact ho)
   clear ho hg hA HSX HO HB
   go_wp2_with fail
   refine hK _ _ (fun h => by cases h) ?_
   clear hK K
   repeat ((first | refine pl_calm rfl rfl (by first | exact wanted_none rfl | (go_simp; done) | rfl) (fun w_ => by first | (go_simp; rfl) | (go_simp; done) | rfl) (fun K hK => ?_) | refine pl_skip rfl (by first | (go_simp; done) | rfl) (fun K hK => ?_) | refine pl_skipa rfl (by first | (go_simp; done) | rfl) (fun K hK => ?_)); go_simp; refine hK _ _ ?_; clear hK K)
   refine pl_done ?_
   go_wp2_with fail
   go_ret
   have HE := HDS.out
   refine ⟨A4, c4, ?_, ?_, HB4.out⟩
   ·rw [← HE, List.length_append]; rfl
   ·rw [← HE, List.length_append]; exact HO4.out
end Go.Proofs.YtphmefhnffoafaaGreatDoor
namespace Go.Proofs.YtphmefhnffoafaaGreatDoor
open Go.RowKit Go.Shelf
set_option linter.unusedVariables false
def climbB (d : List UInt8) (i n : Nat) (p : List (List UInt8)) : Option (List UInt8) :=
 if h : n < 2 then (if p = [] then some d else none) else
 match p.getLast? with
 | none => none
 | some last => if i < halfN n then (climbB d i (halfN n) p.dropLast).map fun x => nodeB x last else (climbB d (i - halfN n) (n - halfN n) p.dropLast).map fun x => nodeB last x
termination_by n
decreasing_by
 ·exact halfN_lt (by omega)
 ·have := halfN_pos n; omega
theorem climbB_one (d : List UInt8) (i n : Nat) (p : List (List UInt8)) (h : n < 2) : climbB d i n p = if p = [] then some d else none := by rw [climbB, dif_pos h]
theorem climbB_nil (d : List UInt8) (i n : Nat) (h : 2 ≤ n) : climbB d i n [] = none := by rw [climbB, dif_neg (by omega)]; rfl
theorem climbB_left (d : List UInt8) (i n : Nat) (p : List (List UInt8)) (last : List UInt8) (h : 2 ≤ n) (hl : p.getLast? = some last) (hk : i < halfN n) : climbB d i n p = (climbB d i (halfN n) p.dropLast).map fun x => nodeB x last := by
 rw [climbB, dif_neg (by omega), hl]; simp only; rw [if_pos hk]
theorem climbB_right (d : List UInt8) (i n : Nat) (p : List (List UInt8)) (last : List UInt8) (h : 2 ≤ n) (hl : p.getLast? = some last) (hk : ¬ i < halfN n) : climbB d i n p = (climbB d (i - halfN n) (n - halfN n) p.dropLast).map fun x => nodeB last x := by
 rw [climbB, dif_neg (by omega), hl]; simp only; rw [if_neg hk]
attribute [local irreducible] nodeB leafB
theorem Sl.to32 {w : World} {Bd n m : Nat} {A : Option Addr} {xs : List Value} (h : Sl w Bd 32 A n xs) (hm : m ≤ n) : Sl w Bd 32 A m (xs.take (m * 32)) := by
 refine ⟨by rw [List.length_take, h.1]; exact Nat.min_eq_left (Nat.mul_le_mul_right _ hm), fun h0 => ?_⟩
 obtain ⟨b, off, e, hb, hc⟩ := h.2 (by omega)
 refine ⟨b, off, e, hb, fun j u hu => hc j u ?_⟩
 have hj := (List.getElem?_eq_some_iff.1 hu).1
 rw [List.length_take] at hj
 rw [List.getElem?_take_of_lt (by omega)] at hu
 exact hu
theorem idCells_take {ds : List (List UInt8)} (h : ∀ d ∈ ds, d.length = 32) (m : Nat) : (idCells ds).take (m * 32) = idCells (ds.take m) := by
 induction ds generalizing m with
 | nil => simp [idCells]
 | cons x xs ih =>
  cases m with
  | zero => simp [idCells]
  | succ m =>
   have hx := h x (by simp)
   have e : idCells (x :: xs) = x.map B ++ idCells xs := by simp [idCells]
   have e2 : idCells ((x :: xs).take (m + 1)) = x.map B ++ idCells (xs.take m) := by simp [idCells]
   rw [e, e2, List.take_append, List.take_of_length_le (by rw [List.length_map, hx]; omega), List.length_map, hx, show (m + 1) * 32 - 32 = m * 32 by omega, ih (fun d hd => h d (by simp [hd]))]
theorem Ids.take {w : World} {A : Option Addr} {n c m : Nat} {ds : List (List UInt8)} (h : Ids w A n c ds) (hm : m ≤ n) : Ids w A m c (ds.take m) := by
 obtain ⟨h1, h2, h3, h4⟩ := h
 refine ⟨by rw [← idCells_take h3]; exact h1.to32 hm, by rw [List.length_take, h2]; exact Nat.min_eq_left hm, fun d hd => h3 d (List.mem_of_mem_take hd), by omega⟩
theorem pl_loadm {P : Program} {ops : Array Oper} {cl : List Nat} {Q : Exit → Act → World → Prop} {o : Oper} {i : Nat} {t : Plan} {a : Act} {w : World} {T : TypeId} {x : Operand} {n b off : Nat} {cs : List Value} (hi : ops[i]? = some o) (hc : plCls cl i = 1 ∨ plCls cl i = 2) (hw : Region.wanted o (yielded ops a.tmps) = true) (ho : o.op = .load T x) (hT : RowT P T n)
  (hcell : ∀ j u, cs[j]? = some u → w.cell? ⟨b, off + j, none⟩ = some u) (hbz : b < w.heap.size) (hx : a.eval x = .pointer (some ⟨b, off, none⟩)) (hn : cs.length = n)
  (hk : ∀ K : Act → World → Prop, (∀ a w, wpS P ops Grow cl Q t a w → K a w) → K (a.put o.dst (.agg cs.toArray)) w) : wpS P ops Grow cl Q (.get i t) a w := by
 have hrun : ∀ w', Grow w w' → (execOp a.eval o).run P w' = .ok (.value (.agg cs.toArray)) w' := by
  intro w' hf
  obtain ⟨d, hu, hd, hi⟩ := hT
  have h := run_loadVar_mid (P := P) w' b off T cs d (fun j u hu => (hf.cell (show (⟨b, off + j, none⟩ : Addr).block < w.heap.size from hbz)).trans (hcell j u hu)) hu (by cases d <;> simp_all) (by rw [hi, hn])
  unfold execOp
  simp only [ho, hx, Instr.loadAt, Instr.sureAddr, Sem.run_bind, Sem.run_pure, Result.andThen_ok, h]
 rcases hc with hc | hc
 ·exact pl_read hi hc hw hrun hk
 ·exact pl_now hi hc hw (hrun w (Grow.refl w)) hk
end Go.Proofs.YtphmefhnffoafaaGreatDoor

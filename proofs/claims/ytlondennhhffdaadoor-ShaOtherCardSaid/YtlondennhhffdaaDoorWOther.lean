/- The walk of seisinlaw03.ShaOther. -/
import Derived.Test.YtlondennhhffdaaDoorOtherR
import Derived.Test.YtlondennhhffdaaDoorOpenE
import Derived.Test.YtlondennhhffdaaDoorFlowU
namespace Go.Proofs.YtlondennhhffdaaDoor
open Go.RowKit Go.Shelf
set_option linter.unusedVariables false

theorem shl_b (s : Nat) (h : s < 8) : IntKind.u8.wrap ((1 : Int) * 2 ^ s) = b8 (1 <<< UInt8.ofNat s) := by
  have : s = 0 ∨ s = 1 ∨ s = 2 ∨ s = 3 ∨ s = 4 ∨ s = 5 ∨ s = 6 ∨ s = 7 := by omega
  rcases this with rfl | rfl | rfl | rfl | rfl | rfl | rfl | rfl <;> rfl
theorem add1_b (m : UInt8) : (b8 m + 1) % 256 = b8 (m + 1) := by
  unfold b8; rw [UInt8.toNat_add]; show ((m.toNat : Int) + 1) % 256 = (((m.toNat + 1) % 256 : Nat) : Int); omega
theorem Sl.up {w w' : World} {A : Option Addr} {n : Nat} {xs : List Value} (h : Sl w w.heap.size 1 A n xs) (hb : Below w.heap.size w w') : Sl w' w'.heap.size 1 A n xs := (h.below hb).more hb.size

/-- A row of this call's own. -/
def OwnAt (w : World) (base : Nat) (A : Option Addr) (n c : Nat) (xs : List Value) : Prop := w.ownsRow base 5 1 (.slice A n c) n xs
theorem OwnAt.grow {w w' : World} {base n c : Nat} {A : Option Addr} {xs : List Value} (h : OwnAt w base A n c xs) (k : Grow w w') : OwnAt w' base A n c xs := own_below h k
theorem own_frozen {w : World} {base g n c : Nat} {e : TypeId} {sz : Nat} {xs : List Value} (h : w.ownsRow base e sz (.slice (some ⟨g, 0, none⟩) n c) n xs) (k : Nat) : w.frozen? ⟨g, k, none⟩ = false := by
  rcases h.2 with ⟨hv, _⟩ | ⟨g2, cap, cur, hv, hb, hg, _⟩
  · cases hv
  · cases hv; exact frozen_of_row w g k cur e hg
attribute [local go_sem high] xor_b
set_option maxRecDepth 100000 in
set_option maxHeartbeats 4000000 in
theorem shaOther_any (A : Option Addr) (n c : Nat) (bs : List UInt8) (z : Int) (s : Nat) (m : UInt8) (w : World) (hb : Sl w w.heap.size 1 A n (bs.map B)) (hn : n ≤ c) (hz : -9223372036854775808 ≤ z) (hz2 : z ≤ 9223372036854775807) (t : UInt8) (hts : b8 t % 8 = s) (hs8 : s < 8) (ht : Tabs w) :
    Calls Tryd.prog 7 #[.slice A n c, .int .i64 z, .int .u8 (b8 t), .int .u8 (b8 m)] w fun e w' => e = .returned (.bool true) ∧ Below w.heap.size w w' := by
  have HT := Lib.hid ht; have HS := Lib.hid hb
  have HB := Lib.hid (Below.refl w.heap.size w)
  have HL := Lib.hid (show bs.length = n by have := hb.len; simpa using this)
  clear ht hb
  by_cases h3 : n ≤ 300
  · have g1 : decide (300 < (n : Int)) = false := by simp; omega
    by_cases h1 : 1 ≤ n
    · have g2 : decide ((n : Int) < 1) = false := by simp; omega
      obtain ⟨k, hk⟩ : ∃ k : Nat, z % (n : Int) = (k : Int) := ⟨(z % (n : Int)).toNat, by have := Int.emod_nonneg z (show (n : Int) ≠ 0 by omega); omega⟩
      have hkn : k < n := by have := Int.emod_lt_of_pos z (show 0 < (n : Int) by omega); omega
      have hkc : k ≤ c := by omega
      have HK := Lib.hid hk
      have HTS := Lib.hid hts
      clear hk hts
      have HN0 := Lib.hid (World.ownsRow_lit (base := w.heap.size) (e := 5) (size := 1) w #[] 0 (Nat.le_refl _) (by simp [maxLen]) rfl)
      have HS1 := Lib.hid (HS.out.alloc (Nat.le_refl _) (.cells #[] 5))
      have HA := Lib.hid (all_bytes bs)
      obtain ⟨x, hx⟩ : ∃ x, bs[k]? = some x := ⟨_, List.getElem?_eq_getElem (by rw [HL.out]; exact hkn)⟩
      have HX := Lib.hid hx
      clear hx
      go_enter Tryd.func7, Tryd.ntmps7
      go_wp2_with (at_builtin; refine wpl_apps rfl rfl el_u8 HN0.out rfl HS1.out rfl HA.out (by omega) (by omega) (Nat.le_of_lt (by simp)) ?_)
      intro A9 c9 w_ ho hg hA
      have HB_ := Lib.hid (show Below w.heap.size w w_ from ((Below.refl w.heap.size w).alloc (Nat.le_refl _) (.cells #[] 5)).grown hg (by simp) (by intro k hk; cases hk; exact Nat.le_refl _))
      have HO9 := Lib.hid ho
      clear ho hg hA HB HN0 HS1
      have HB := HB_
      clear HB_
      go_wp2_with fail
      refine (pick_any z n _ hz hz2 (by omega) (by omega)).mono ?_
      rintro e w1 ⟨rfl, rfl⟩
      rw [HK.out]
      obtain ⟨g9, rfl, hg9, hlt9, hn9⟩ := own_form HO9.out (by omega)
      have HG9 := Lib.hid hg9
      have HO := Lib.hid (show OwnAt w1 w.heap.size (some ⟨g9, 0, none⟩) n c9 (bs.map B) from HO9.out)
      clear HO9 hg9 hlt9
      have hts : (IntKind.i64.wrap (b8 t)).tmod 8 = (s : Int) := by rw [IntWalk.i64_in _ (by have := b8_range t; omega)]; rw [Int.tmod_eq_emod_of_nonneg (b8_range t).1]; exact HTS.out
      have hsr : (s : Int) < 8 := by omega
      obtain ⟨y, hy⟩ : ∃ y : UInt8, IntKind.u8.wrap ((2 : Int) ^ s) = b8 y := ⟨_, by have := shl_b s hs8; rw [Int.one_mul] at this; exact this⟩
      try go_wp2_with fail
      repeat' (first | (with_reducible refine wp_plan (id := 5) Grow [0,0,0,0,0,2,0,0,0,0,0,0,3] (.get 0 (.get 1 (.get 2 (.get 3 (.get 4 (.get 5 (.get 6 (.get 7 (.get 8 (.get 9 (.get 10 (.get 11 (.act 12 .done))))))))))))) (by kernel_rfl) (by kernel_rfl) Grow.refl Grow.trans ?_) | go_values | go_skip | go_guarded | go_step | go_upon | go_back)
      intro w_ hd_
      have hb_ := hd_.grow
      have HB_ := Lib.hid (HB.out.grow' hb_)
      clear HB
      have HB := HB_
      clear HB_
      have HO_ := Lib.hid (HO.out.grow hb_)
      clear HO
      have HO := HO_
      clear HO_
      clear hb_ hd_
      have hcx : w_.cell? ⟨g9, k, none⟩ = some (.int .u8 (b8 x)) := by
        have h := World.ownsRow.cellAt HO.out k (by omega)
        rw [h, List.getElem?_map, HX.out]; rfl
      have hfz : w_.frozen? ⟨g9, k, none⟩ = false := own_frozen HO.out k
      repeat (first | (refine pl_calm rfl rfl (by first | exact wanted_none rfl | (go_simp; done) | rfl) (fun w_ => by first | (go_simp; rfl) | (go_simp; done) | rfl) (fun K hK => ?_); go_simp; refine hK _ _ ?_; clear hK K) | (refine pl_skip rfl (by first | (go_simp; done) | rfl) (fun K hK => ?_); go_simp; refine hK _ _ ?_; clear hK K) | (refine pl_skipa rfl (by first | (go_simp; done) | rfl) (fun K hK => ?_); go_simp; refine hK _ _ ?_; clear hK K) | (refine pl_load rfl rfl (by first | exact wanted_none rfl | (go_simp; done) | rfl) rfl (by first | rfl | (go_simp; rfl)) (by kernel_rfl) (by first | exact hcx) (fun K hK => ?_); go_simp; refine hK _ _ ?_; clear hK K) | (refine pl_loadnow rfl rfl (by first | exact wanted_none rfl | (go_simp; done) | rfl) rfl (by first | rfl | (go_simp; rfl)) (by kernel_rfl) (by first | exact hcx) (fun K hK => ?_); go_simp; refine hK _ _ ?_; clear hK K))
      refine pl_act rfl (by exact wanted_none rfl) (fun K hK => ?_)
      go_wp2_with fail
      refine hK _ _ (fun h => by cases h) ?_
      clear hK K hcx hfz hy hts hsr
      obtain ⟨xb, hxb⟩ : ∃ xb, xb = bs.set k (x ^^^ y) := ⟨_, rfl⟩
      have HXL := Lib.hid (show xb.length = n by rw [hxb, List.length_set]; exact HL.out)
      have HX9 := Lib.hid (show Sl (w_.setCell ⟨g9, k, none⟩ (.int .u8 (b8 (x ^^^ y)))) (w_.setCell ⟨g9, k, none⟩ (.int .u8 (b8 (x ^^^ y)))).heap.size 1 (some ⟨g9, 0, none⟩) n (xb.map B) by
        have h := Sl.of_own (World.ownsRow.stored HO.out k (.int .u8 (b8 (x ^^^ y)))).1
        rw [hxb, List.map_set]; exact h)
      have HB_ := Lib.hid (HB.out.setCell (p := ⟨g9, k, none⟩) HG9.out (.int .u8 (b8 (x ^^^ y))))
      clear HB HO hxb
      have HB := HB_
      clear HB_
      generalize w_.setCell ⟨g9, k, none⟩ (.int .u8 (b8 (x ^^^ y))) = wa at HB HX9 ⊢
      clear w_
      refine pl_done ?_
      go_wp2_with fail
      generalize hw_ : World.alloc wa _ = w1_
      obtain ⟨hX_, hb1, hs_⟩ := alloc_eq hw_
      have HO := Lib.hid (own_blk (base := wa.heap.size) hX_ (n := 1) rfl (Nat.le_refl _) (by simp [maxLen]))
      have HB1 := Lib.hid (HB.out.grow' hb1)
      have HSa := Lib.hid (HS.out.up HB1.out)
      have HG1 := Lib.hid hb1
      clear hw_ hX_ hs_ hb1
      refine (long_any _ _ _ bs _ HSa.out (by omega)).mono ?_
      rintro e w2_ ⟨A5, c5, rfl, ho_, hb_⟩
      have HS5 := Lib.hid (Sl.of_own ho_)
      have HA5 := Lib.hid (all_bytes (beBytes n 4 ++ bs))
      have HO2 := Lib.hid (own_below HO.out hb_)
      have HG2 := Lib.hid (Grow.trans _ _ _ HG1.out hb_)
      clear ho_ hb_ HO HSa HG1 HB1
      clear w1_
      go_wp2_with (at_builtin; refine wpl_apps rfl rfl el_u8 HO2.out rfl HS5.out rfl HA5.out (by omega) (by omega) HG2.out.size ?_)
      intro A11 c11 w4 ho hg hA
      have hb4 : Grow wa w4 := app_below HG2.out HO2.out hg
      have H1 := Lib.hid (show Sl w4 w4.heap.size 1 A11 (1 + (4 + n)) ((underB m [bs]).map B) by
        have h := Sl.of_own ho
        rw [under1, HL.out]
        simp only [List.map_append, List.map_cons, List.cons_append, List.nil_append]
        exact h)
      have HB_ := Lib.hid (HB.out.grow' hb4)
      clear HB ho hg hA HO2 HG2 HS5 HA5
      have HB := HB_
      clear HB_
      have HX9_ := Lib.hid (HX9.out.grow hb4)
      clear HX9
      have HX9 := HX9_
      clear HX9_
      clear hb4
      clear w2_
      try clear wa
      rename World => wa
      go_wp2_with fail
      have HSa := Lib.hid (HS.out.up HB.out)
      refine so7 (A := A) (n := n) (c := c) (k := k) (bs := bs) (m := m) (Nat.le_of_lt hkn) hn h3 HSa (Lib.hid ?_)
      intros
      rename_i w4 A12 c12 hb4 hs4
      have H2 := Lib.hid hs4
      have HB_ := Lib.hid (HB.out.grow' hb4)
      have HX9_ := Lib.hid (HX9.out.grow hb4)
      have H1_ := Lib.hid (H1.out.grow hb4)
      clear HB HX9 H1 HSa hb4 hs4
      have HB := HB_
      have HX9 := HX9_
      have H1 := H1_
      clear HB_ HX9_ H1_
      try clear wa
      rename World => wa
      have hm1 := add1_b m
      go_wp2_with fail
      generalize hw_ : World.alloc wa _ = w1_
      obtain ⟨hX_, hb1, hs_⟩ := alloc_eq hw_
      have HO := Lib.hid (own_blk (base := wa.heap.size) hX_ (n := 1) rfl (Nat.le_refl _) (by simp [maxLen]))
      have HB1 := Lib.hid (HB.out.grow' hb1)
      have HSa := Lib.hid (HS.out.up HB1.out)
      have HG1 := Lib.hid hb1
      clear hw_ hX_ hs_ hb1
      refine (long_any _ _ _ bs _ HSa.out (by omega)).mono ?_
      rintro e w2_ ⟨A5, c5, rfl, ho_, hb_⟩
      have HS5 := Lib.hid (Sl.of_own ho_)
      have HA5 := Lib.hid (all_bytes (beBytes n 4 ++ bs))
      have HO2 := Lib.hid (own_below HO.out hb_)
      have HG2 := Lib.hid (Grow.trans _ _ _ HG1.out hb_)
      clear ho_ hb_ HO HSa HG1 HB1
      clear w1_
      go_wp2_with (at_builtin; refine wpl_apps rfl rfl el_u8 HO2.out rfl HS5.out rfl HA5.out (by omega) (by omega) HG2.out.size ?_)
      intro A13 c13 w4 ho hg hA
      have hb4 : Grow wa w4 := app_below HG2.out HO2.out hg
      have H3 := Lib.hid (show Sl w4 w4.heap.size 1 A13 (1 + (4 + n)) ((underB (m + 1) [bs]).map B) by
        have h := Sl.of_own ho
        rw [under1, HL.out]
        simp only [List.map_append, List.map_cons, List.cons_append, List.nil_append]
        exact h)
      have HB_ := Lib.hid (HB.out.grow' hb4)
      clear HB ho hg hA HO2 HG2 HS5 HA5
      have HB := HB_
      clear HB_
      have HX9_ := Lib.hid (HX9.out.grow hb4)
      clear HX9
      have HX9 := HX9_
      clear HX9_
      have H1_ := Lib.hid (H1.out.grow hb4)
      clear H1
      have H1 := H1_
      clear H1_
      have H2_ := Lib.hid (H2.out.grow hb4)
      clear H2
      have H2 := H2_
      clear H2_
      clear hb4
      clear w2_
      try clear wa
      rename World => wa
      clear hm1
      go_wp2_with fail
      rename World => w_
      obtain ⟨vb, hvb⟩ := dig_of bs
      obtain ⟨vx, hvx⟩ := dig_of xb
      obtain ⟨vy, hvy⟩ := dig_of (bs ++ [0])
      obtain ⟨v1, hv1⟩ := dig_of (underB m [bs])
      obtain ⟨v2, hv2⟩ := dig_of (underB m [bs.take k, bs.drop k])
      obtain ⟨v3, hv3⟩ := dig_of (underB (m + 1) [bs])
      have HVB := Lib.hid hvb; have HVX := Lib.hid hvx; have HVY := Lib.hid hvy; have HV1 := Lib.hid hv1; have HV2 := Lib.hid hv2; have HV3 := Lib.hid hv3
      clear hvb hvx hvy hv1 hv2 hv3
      obtain ⟨d1, hd1⟩ : ∃ d, (sha xb == sha bs) = d := ⟨_, rfl⟩
      obtain ⟨d2, hd2⟩ : ∃ d, (sha (bs ++ [0]) == sha bs) = d := ⟨_, rfl⟩
      obtain ⟨d3, hd3⟩ : ∃ d, (sha (underB m [bs]) == sha (underB m [bs.take k, bs.drop k])) = d := ⟨_, rfl⟩
      obtain ⟨d4, hd4⟩ : ∃ d, (sha (underB m [bs]) == sha (underB (m + 1) [bs])) = d := ⟨_, rfl⟩
      have q1 := HVX.out.eql_b HVB.out hd1
      have q2 := HVY.out.eql_b HVB.out hd2
      have q3 := HV1.out.eql_b HV2.out hd3
      have q4 := HV1.out.eql_b HV3.out hd4
      have n1 := HVX.out.neq_b HVB.out hd1
      have n2 := HVY.out.neq_b HVB.out hd2
      have n3 := HV2.out.neq_b HV1.out (beq_swap hd3)
      have n4 := HV1.out.neq_b HV3.out hd4
      clear hd1 hd2 hd3 hd4
      go_wp2_with fail
      refine (dof_any _ _ _ HVX.out _ HX9.out (by omega)).mono ?_
      rintro e w_ ⟨rfl, hb_⟩
      have HB_ := Lib.hid (HB.out.grow' hb_)
      clear HB
      have HB := HB_
      clear HB_
      have HX9_ := Lib.hid (HX9.out.grow hb_)
      clear HX9
      have HX9 := HX9_
      clear HX9_
      have H1_ := Lib.hid (H1.out.grow hb_)
      clear H1
      have H1 := H1_
      clear H1_
      have H2_ := Lib.hid (H2.out.grow hb_)
      clear H2
      have H2 := H2_
      clear H2_
      have H3_ := Lib.hid (H3.out.grow hb_)
      clear H3
      have H3 := H3_
      clear H3_
      clear hb_
      have HSa := Lib.hid (HS.out.up HB.out)
      go_wp2_with fail
      refine (dof_any _ _ _ HVB.out _ HSa.out (by omega)).mono ?_
      rintro e w_ ⟨rfl, hb_⟩
      have HB_ := Lib.hid (HB.out.grow' hb_)
      clear HB
      have HB := HB_
      clear HB_
      have HX9_ := Lib.hid (HX9.out.grow hb_)
      clear HX9
      have HX9 := HX9_
      clear HX9_
      have H1_ := Lib.hid (H1.out.grow hb_)
      clear H1
      have H1 := H1_
      clear H1_
      have H2_ := Lib.hid (H2.out.grow hb_)
      clear H2
      have H2 := H2_
      clear H2_
      have H3_ := Lib.hid (H3.out.grow hb_)
      clear H3
      have H3 := H3_
      clear H3_
      clear hb_
      clear HSa
      cases d1 with
      | true =>
        go_wp2_with fail
        have HTa := Lib.hid (HT.out.below HB.out)
        go_wp2_with fail
        refine (awake3_any _ HTa.out).mono ?_
        rintro e w_ ⟨rfl, hb_⟩
        have HB_ := Lib.hid (HB.out.grow' hb_)
        clear HB
        have HB := HB_
        clear HB_
        clear hb_
        go_wp2_with fail
        go_ret
        exact ⟨rfl, HB.out⟩
      | false =>
        have HN0 := Lib.hid (World.ownsRow_lit (base := w_.heap.size) (e := 5) (size := 1) w_ #[] 0 (Nat.le_refl _) (by simp [maxLen]) rfl)
        have HSa := Lib.hid ((HS.out.up HB.out).alloc (Nat.le_refl _) (.cells #[] 5))
        go_wp2_with (at_builtin; refine wpl_appsw (by first | rfl | (go_simp; done)) rfl el_u8 HN0.out rfl HSa.out rfl HA.out (by omega) (by omega) (Nat.le_of_lt (by simp)) ?_)
        intro A71 c71 w4 ho hg hA
        have HG4 := Lib.hid (show Grow w_ w4 from ((Below.refl w_.heap.size w_).alloc (Nat.le_refl _) (.cells #[] 5)).grown hg (by simp) (by intro k hk; cases hk; exact Nat.le_refl _))
        have HO4 := Lib.hid ho
        clear ho hg hA HN0 HSa
        have HSZ := Lib.hid (Sl.lit (sz := 1) w4 #[.int .u8 0] 5 1 rfl)
        have HO5 := Lib.hid (own_alloc HO4.out (.cells #[.int .u8 0] 5))
        have HG5 := Lib.hid (show w_.heap.size ≤ (w4.alloc (.cells #[.int .u8 0] 5)).heap.size from Nat.le_trans HG4.out.size (by simp))
        have HA0 := Lib.hid (show ∀ u ∈ (#[.int .u8 0] : Array Value).toList, u.oneCell' = true from by intro u hu; simp at hu; subst hu; rfl)
        go_wp2_with (at_builtin; refine wpl_appsw (by first | rfl | (go_simp; done)) rfl el_u8 HO5.out rfl HSZ.out rfl HA0.out (by omega) (by omega) HG5.out ?_)
        intro A75 c75 w5 ho hg hA
        have hb5 : Grow w_ w5 := (HG4.out.alloc HG4.out.size (.cells #[.int .u8 0] 5)).grown hg HG5.out (own_from HO5.out)
        have HSY := Lib.hid (show Sl w5 w5.heap.size 1 A75 (n + 1) ((bs ++ [0]).map B) by
          have h := Sl.of_own ho
          simp only [List.map_append, List.map_cons, List.map_nil, Nat.zero_add, List.nil_append] at h ⊢
          exact h)
        have HB_ := Lib.hid (HB.out.grow' hb5)
        have HX9_ := Lib.hid (HX9.out.grow hb5)
        have H1_ := Lib.hid (H1.out.grow hb5)
        have H2_ := Lib.hid (H2.out.grow hb5)
        have H3_ := Lib.hid (H3.out.grow hb5)
        clear HB HX9 H1 H2 H3 ho hg hA HO4 HO5 HG4 HG5 HSZ HA0 hb5
        have HB := HB_
        have HX9 := HX9_
        have H1 := H1_
        have H2 := H2_
        have H3 := H3_
        clear HB_ HX9_ H1_ H2_ H3_
        go_wp2_with fail
        refine (dof_any _ _ _ HVY.out _ HSY.out (by omega)).mono ?_
        rintro e w_ ⟨rfl, hb_⟩
        have HB_ := Lib.hid (HB.out.grow' hb_)
        clear HB
        have HB := HB_
        clear HB_
        have HX9_ := Lib.hid (HX9.out.grow hb_)
        clear HX9
        have HX9 := HX9_
        clear HX9_
        have H1_ := Lib.hid (H1.out.grow hb_)
        clear H1
        have H1 := H1_
        clear H1_
        have H2_ := Lib.hid (H2.out.grow hb_)
        clear H2
        have H2 := H2_
        clear H2_
        have H3_ := Lib.hid (H3.out.grow hb_)
        clear H3
        have H3 := H3_
        clear H3_
        clear hb_
        have HSa := Lib.hid (HS.out.up HB.out)
        go_wp2_with fail
        refine (dof_any _ _ _ HVB.out _ HSa.out (by omega)).mono ?_
        rintro e w_ ⟨rfl, hb_⟩
        have HB_ := Lib.hid (HB.out.grow' hb_)
        clear HB
        have HB := HB_
        clear HB_
        have HX9_ := Lib.hid (HX9.out.grow hb_)
        clear HX9
        have HX9 := HX9_
        clear HX9_
        have H1_ := Lib.hid (H1.out.grow hb_)
        clear H1
        have H1 := H1_
        clear H1_
        have H2_ := Lib.hid (H2.out.grow hb_)
        clear H2
        have H2 := H2_
        clear H2_
        have H3_ := Lib.hid (H3.out.grow hb_)
        clear H3
        have H3 := H3_
        clear H3_
        clear hb_
        clear HSa HSY
        cases d2 with
        | true =>
          go_wp2_with fail
          have HTa := Lib.hid (HT.out.below HB.out)
          go_wp2_with fail
          refine (awake3_any _ HTa.out).mono ?_
          rintro e w_ ⟨rfl, hb_⟩
          have HB_ := Lib.hid (HB.out.grow' hb_)
          clear HB
          have HB := HB_
          clear HB_
          clear hb_
          go_wp2_with fail
          go_ret
          exact ⟨rfl, HB.out⟩
        | false =>
          go_wp2_with fail
          refine (dof_any _ _ _ HV1.out _ H1.out (by omega)).mono ?_
          rintro e w_ ⟨rfl, hb_⟩
          have HB_ := Lib.hid (HB.out.grow' hb_)
          clear HB
          have HB := HB_
          clear HB_
          have HX9_ := Lib.hid (HX9.out.grow hb_)
          clear HX9
          have HX9 := HX9_
          clear HX9_
          have H1_ := Lib.hid (H1.out.grow hb_)
          clear H1
          have H1 := H1_
          clear H1_
          have H2_ := Lib.hid (H2.out.grow hb_)
          clear H2
          have H2 := H2_
          clear H2_
          have H3_ := Lib.hid (H3.out.grow hb_)
          clear H3
          have H3 := H3_
          clear H3_
          clear hb_
          go_wp2_with fail
          refine (dof_any _ _ _ HV2.out _ H2.out (by omega)).mono ?_
          rintro e w_ ⟨rfl, hb_⟩
          have HB_ := Lib.hid (HB.out.grow' hb_)
          clear HB
          have HB := HB_
          clear HB_
          have HX9_ := Lib.hid (HX9.out.grow hb_)
          clear HX9
          have HX9 := HX9_
          clear HX9_
          have H1_ := Lib.hid (H1.out.grow hb_)
          clear H1
          have H1 := H1_
          clear H1_
          have H2_ := Lib.hid (H2.out.grow hb_)
          clear H2
          have H2 := H2_
          clear H2_
          have H3_ := Lib.hid (H3.out.grow hb_)
          clear H3
          have H3 := H3_
          clear H3_
          clear hb_
          cases d3 with
          | true =>
            go_wp2_with fail
            have HTa := Lib.hid (HT.out.below HB.out)
            go_wp2_with fail
            refine (awake3_any _ HTa.out).mono ?_
            rintro e w_ ⟨rfl, hb_⟩
            have HB_ := Lib.hid (HB.out.grow' hb_)
            clear HB
            have HB := HB_
            clear HB_
            clear hb_
            go_wp2_with fail
            go_ret
            exact ⟨rfl, HB.out⟩
          | false =>
            go_wp2_with fail
            refine (dof_any _ _ _ HV1.out _ H1.out (by omega)).mono ?_
            rintro e w_ ⟨rfl, hb_⟩
            have HB_ := Lib.hid (HB.out.grow' hb_)
            clear HB
            have HB := HB_
            clear HB_
            have HX9_ := Lib.hid (HX9.out.grow hb_)
            clear HX9
            have HX9 := HX9_
            clear HX9_
            have H1_ := Lib.hid (H1.out.grow hb_)
            clear H1
            have H1 := H1_
            clear H1_
            have H2_ := Lib.hid (H2.out.grow hb_)
            clear H2
            have H2 := H2_
            clear H2_
            have H3_ := Lib.hid (H3.out.grow hb_)
            clear H3
            have H3 := H3_
            clear H3_
            clear hb_
            go_wp2_with fail
            refine (dof_any _ _ _ HV3.out _ H3.out (by omega)).mono ?_
            rintro e w_ ⟨rfl, hb_⟩
            have HB_ := Lib.hid (HB.out.grow' hb_)
            clear HB
            have HB := HB_
            clear HB_
            have HX9_ := Lib.hid (HX9.out.grow hb_)
            clear HX9
            have HX9 := HX9_
            clear HX9_
            have H1_ := Lib.hid (H1.out.grow hb_)
            clear H1
            have H1 := H1_
            clear H1_
            have H2_ := Lib.hid (H2.out.grow hb_)
            clear H2
            have H2 := H2_
            clear H2_
            have H3_ := Lib.hid (H3.out.grow hb_)
            clear H3
            have H3 := H3_
            clear H3_
            clear hb_
            clear H1 H2 H3
            cases d4 with
            | true =>
              go_wp2_with fail
              have HTa := Lib.hid (HT.out.below HB.out)
              go_wp2_with fail
              refine (awake3_any _ HTa.out).mono ?_
              rintro e w_ ⟨rfl, hb_⟩
              have HB_ := Lib.hid (HB.out.grow' hb_)
              clear HB
              have HB := HB_
              clear HB_
              clear hb_
              go_wp2_with fail
              go_ret
              exact ⟨rfl, HB.out⟩
            | false =>
              go_wp2_with fail
              have HSa := Lib.hid (HS.out.up HB.out)
              have HTa := Lib.hid (HT.out.below HB.out)
              have HS1 := Lib.hid (show Sl w_ w_.heap.size 1 A k ((bs.take k).map B) by rw [List.map_take]; exact HSa.out.to1 (Nat.le_of_lt hkn))
              have HS2 := Lib.hid (show Sl w_ w_.heap.size 1 _ (n - k) ((bs.drop k).map B) by rw [List.map_drop]; exact HSa.out.from1 (Nat.le_of_lt hkn) hn)
              have hkn2 : k ≤ n := Nat.le_of_lt hkn
              clear HS HT q1 q2 q3 q4
              have HLE1 := Lib.hid (show ∀ l ∈ [bs], l.length ≤ 1000000 from by intro l hl; simp only [List.mem_singleton] at hl; subst hl; rw [HL.out]; omega)
              have HLE2 := Lib.hid (show ∀ l ∈ [bs.take k, bs.drop k], l.length ≤ 1000000 from by intro l hl; simp only [List.mem_cons, List.not_mem_nil, or_false] at hl; rcases hl with rfl | rfl <;> (simp only [List.length_take, List.length_drop, HL.out]; omega))
              try go_wp2_with fail
              repeat' (first | (with_reducible refine wp_flow (id := 11) [0,1,3,0,8,31,63,127,255,255,1023,2047,255,4351,16383,32767,65535,131071,262143,262143,262143,1835007,262143,262143,12845055,33292287,67108863,262143,262143,268697599,1073741823,2147483647,4294967295,8589934591,17179869183,17179869183,51539607551,137438953471,17179869183,292057776127,17179869183,1116691496959,4398046511103,8796093022207,17592186044415,35184372088831,70368744177663,140737488355327,281474976710655] [0,3,3,0,3,3,0,0,0,3,3,3,0,3,3,0,0,0,0,0,0,0,0,0,0,3,3,0,0,3,3,0,0,0,0,0,3,3,0,0,0,3,3,0,0,0,3,0,0] (fun i => match i with | 1 => spP 1 [xb] | 2 => spV (.agg vx.toArray) | 4 => spP 1 [bs] | 5 => spV (.agg vb.toArray) | 9 => spB 1 [0] | 10 => spP 2 [bs, [0]] | 11 => spV (.agg vy.toArray) | 13 => spP 1 [bs] | 14 => spV (.agg vb.toArray) | 25 => spP 2 [bs.take k, bs.drop k] | 26 => spV (.agg v2.toArray) | 29 => spP 1 [bs] | 30 => spV (.agg v1.toArray) | 36 => spP 1 [bs] | 37 => spV (.agg v1.toArray) | 41 => spP 1 [bs] | 42 => spV (.agg v3.toArray) | 46 => spV (.bool true) | _ => spV undef) (by kernel_rfl) (by kernel_rfl) ?_) | go_values | go_skip | go_guarded | go_step | go_upon | go_back)
              intro w_ hd_
              have hb_ := hd_.grow
              have HB_ := Lib.hid (HB.out.grow' hb_)
              clear HB
              have HB := HB_
              clear HB_
              have HX9_ := Lib.hid (HX9.out.grow hb_)
              clear HX9
              have HX9 := HX9_
              clear HX9_
              have HSa_ := Lib.hid (HSa.out.grow hb_)
              clear HSa
              have HSa := HSa_
              clear HSa_
              have HTa_ := Lib.hid (HTa.out.grow hb_)
              clear HTa
              have HTa := HTa_
              clear HTa_
              have HS1_ := Lib.hid (HS1.out.grow hb_)
              clear HS1
              have HS1 := HS1_
              clear HS1_
              have HS2_ := Lib.hid (HS2.out.grow hb_)
              clear HS2
              have HS2 := HS2_
              clear HS2_
              clear hb_ hd_
              show wpL _ _ _ _ _ _ _ [0,1,2,3,4,5,6,7,8,9,10,11,12,13,14,15,16,17,18,19,20,21,22,23,24,25,26,27,28,29,30,31,32,33,34,35,36,37,38,39,40,41,42,43,44,45,46,47,48] _ _
              repeat (first | (refine fl_calm rfl (by decide) (by first | exact wanted_none rfl | (go_simp; done) | rfl) (fun w_ _ _ => by first | (go_simp; rfl) | (go_simp; done) | rfl) (fun K hK => ?_); go_simp; refine hK _ ?_; clear hK K) | (refine fl_skip rfl (by first | (go_simp; done) | rfl) (fun K hK => ?_); go_simp; refine hK _ ?_; clear hK K))
              refine fl_news rfl (by kernel_rfl) rfl (by first | exact wanted_none rfl | (go_simp; done) | rfl) (fun w_ => by first | (go_simp; exact ⟨rfl, rfl⟩) | (go_simp; rfl) | (go_simp; exact ⟨⟨rfl, rfl, rfl⟩, rfl⟩)) (fun w2_ w3_ g_ hL_ hg2_ hg_ hb_ => ?_) (fun A97 c97 K hK => ?_)
              · skip
                replace HX9 := Lib.hid (HX9.out.grow hg_)
                exact parts1 hb_ HX9.out hn9
              go_simp
              refine hK _ ?_
              clear hK K
              refine fl_callv rfl (by kernel_rfl) rfl (by first | exact wanted_none rfl | (go_simp; done) | rfl) (fun w_ => by first | (go_simp; exact ⟨rfl, rfl⟩) | (go_simp; rfl) | (go_simp; exact ⟨⟨rfl, rfl, rfl⟩, rfl⟩)) (fun w2_ hg_ hL_ => ?_) (fun K hK => ?_)
              · skip
                replace HTa := Lib.hid (HTa.out.grow hg_)
                have HP := Lib.hid (flA.get (k := 0) hL_ rfl (by kernel_rfl))
                exact psum_any HVX.out (by simp) HP.out (by omega) (by rw [HXL.out]; omega) HTa.out
              go_simp
              refine hK _ ?_
              clear hK K
              repeat (first | (refine fl_calm rfl (by decide) (by first | exact wanted_none rfl | (go_simp; done) | rfl) (fun w_ _ _ => by first | (go_simp; rfl) | (go_simp; done) | rfl) (fun K hK => ?_); go_simp; refine hK _ ?_; clear hK K) | (refine fl_skip rfl (by first | (go_simp; done) | rfl) (fun K hK => ?_); go_simp; refine hK _ ?_; clear hK K))
              refine fl_news rfl (by kernel_rfl) rfl (by first | exact wanted_none rfl | (go_simp; done) | rfl) (fun w_ => by first | (go_simp; exact ⟨rfl, rfl⟩) | (go_simp; rfl) | (go_simp; exact ⟨⟨rfl, rfl, rfl⟩, rfl⟩)) (fun w2_ w3_ g_ hL_ hg2_ hg_ hb_ => ?_) (fun A100 c100 K hK => ?_)
              · skip
                replace HSa := Lib.hid (HSa.out.grow hg_)
                exact parts1 hb_ HSa.out hn
              go_simp
              refine hK _ ?_
              clear hK K
              refine fl_callv rfl (by kernel_rfl) rfl (by first | exact wanted_none rfl | (go_simp; done) | rfl) (fun w_ => by first | (go_simp; exact ⟨rfl, rfl⟩) | (go_simp; rfl) | (go_simp; exact ⟨⟨rfl, rfl, rfl⟩, rfl⟩)) (fun w2_ hg_ hL_ => ?_) (fun K hK => ?_)
              · skip
                replace HTa := Lib.hid (HTa.out.grow hg_)
                have HP := Lib.hid (flA.get (k := 2) hL_ rfl (by kernel_rfl))
                exact psum_any HVB.out (by simp) HP.out (by omega) (by rw [HL.out]; omega) HTa.out
              go_simp
              refine hK _ ?_
              clear hK K
              repeat (first | (refine fl_calm rfl (by decide) (by first | exact wanted_none rfl | (go_simp; done) | rfl) (fun w_ _ _ => by first | (go_simp; rfl) | (go_simp; done) | rfl) (fun K hK => ?_); go_simp; refine hK _ ?_; clear hK K) | (refine fl_skip rfl (by first | (go_simp; done) | rfl) (fun K hK => ?_); go_simp; refine hK _ ?_; clear hK K))
              refine fl_news rfl (by kernel_rfl) rfl (by first | exact wanted_none rfl | (go_simp; done) | rfl) (fun w_ => by first | (go_simp; exact ⟨rfl, rfl⟩) | (go_simp; rfl) | (go_simp; exact ⟨⟨rfl, rfl, rfl⟩, rfl⟩)) (fun w2_ w3_ g_ hL_ hg2_ hg_ hb_ => ?_) (fun A105 c105 K hK => ?_)
              · skip
                exact ⟨hb_.sl (by rfl), Nat.le_refl _⟩
              go_simp
              refine hK _ ?_
              clear hK K
              refine fl_news rfl (by kernel_rfl) rfl (by first | exact wanted_none rfl | (go_simp; done) | rfl) (fun w_ => by first | (go_simp; exact ⟨rfl, rfl⟩) | (go_simp; rfl) | (go_simp; exact ⟨⟨rfl, rfl, rfl⟩, rfl⟩)) (fun w2_ w3_ g_ hL_ hg2_ hg_ hb_ => ?_) (fun A106 c106 K hK => ?_)
              · skip
                replace HSa := Lib.hid (HSa.out.grow hg_)
                have HZ := Lib.hid (flA.get (k := 4) hL_ rfl (by kernel_rfl))
                exact parts2 hb_ HSa.out hn (HZ.out.1.grow hg2_) HZ.out.2
              go_simp
              refine hK _ ?_
              clear hK K
              refine fl_callv rfl (by kernel_rfl) rfl (by first | exact wanted_none rfl | (go_simp; done) | rfl) (fun w_ => by first | (go_simp; exact ⟨rfl, rfl⟩) | (go_simp; rfl) | (go_simp; exact ⟨⟨rfl, rfl, rfl⟩, rfl⟩)) (fun w2_ hg_ hL_ => ?_) (fun K hK => ?_)
              · skip
                replace HTa := Lib.hid (HTa.out.grow hg_)
                have HP := Lib.hid (flA.get (k := 5) hL_ rfl (by kernel_rfl))
                exact psum_any HVY.out (by simp) HP.out (by omega) (by rw [List.length_append, HL.out]; simp; omega) HTa.out
              go_simp
              refine hK _ ?_
              clear hK K
              repeat (first | (refine fl_calm rfl (by decide) (by first | exact wanted_none rfl | (go_simp; done) | rfl) (fun w_ _ _ => by first | (go_simp; rfl) | (go_simp; done) | rfl) (fun K hK => ?_); go_simp; refine hK _ ?_; clear hK K) | (refine fl_skip rfl (by first | (go_simp; done) | rfl) (fun K hK => ?_); go_simp; refine hK _ ?_; clear hK K))
              refine fl_news rfl (by kernel_rfl) rfl (by first | exact wanted_none rfl | (go_simp; done) | rfl) (fun w_ => by first | (go_simp; exact ⟨rfl, rfl⟩) | (go_simp; rfl) | (go_simp; exact ⟨⟨rfl, rfl, rfl⟩, rfl⟩)) (fun w2_ w3_ g_ hL_ hg2_ hg_ hb_ => ?_) (fun A109 c109 K hK => ?_)
              · skip
                replace HSa := Lib.hid (HSa.out.grow hg_)
                exact parts1 hb_ HSa.out hn
              go_simp
              refine hK _ ?_
              clear hK K
              refine fl_callv rfl (by kernel_rfl) rfl (by first | exact wanted_none rfl | (go_simp; done) | rfl) (fun w_ => by first | (go_simp; exact ⟨rfl, rfl⟩) | (go_simp; rfl) | (go_simp; exact ⟨⟨rfl, rfl, rfl⟩, rfl⟩)) (fun w2_ hg_ hL_ => ?_) (fun K hK => ?_)
              · skip
                replace HTa := Lib.hid (HTa.out.grow hg_)
                have HP := Lib.hid (flA.get (k := 7) hL_ rfl (by kernel_rfl))
                exact psum_any HVB.out (by simp) HP.out (by omega) (by rw [HL.out]; omega) HTa.out
              go_simp
              refine hK _ ?_
              clear hK K
              repeat (first | (refine fl_calm rfl (by decide) (by first | exact wanted_none rfl | (go_simp; done) | rfl) (fun w_ _ _ => by first | (go_simp; rfl) | (go_simp; done) | rfl) (fun K hK => ?_); go_simp; refine hK _ ?_; clear hK K) | (refine fl_skip rfl (by first | (go_simp; done) | rfl) (fun K hK => ?_); go_simp; refine hK _ ?_; clear hK K))
              generalize (if c = k then A else Option.map (fun x => x.add k) A) = A2 at HS2 ⊢
              refine fl_news rfl (by kernel_rfl) rfl (by first | exact wanted_none rfl | (go_simp; done) | rfl) (fun w_ => by first | (go_simp; exact ⟨rfl, rfl⟩) | (go_simp; rfl) | (go_simp; exact ⟨⟨rfl, rfl, rfl⟩, rfl⟩)) (fun w2_ w3_ g_ hL_ hg2_ hg_ hb_ => ?_) (fun A121 c121 K hK => ?_)
              · skip
                replace HS1 := Lib.hid (HS1.out.grow hg_)
                replace HS2 := Lib.hid (HS2.out.grow hg_)
                exact parts2 hb_ HS1.out hkc HS2.out (by omega)
              go_simp
              refine hK _ ?_
              clear hK K
              refine fl_callv rfl (by kernel_rfl) rfl (by first | exact wanted_none rfl | (go_simp; done) | rfl) (fun w_ => by first | (go_simp; exact ⟨rfl, rfl⟩) | (go_simp; rfl) | (go_simp; exact ⟨⟨rfl, rfl, rfl⟩, rfl⟩)) (fun w2_ hg_ hL_ => ?_) (fun K hK => ?_)
              · skip
                replace HTa := Lib.hid (HTa.out.grow hg_)
                have HP := Lib.hid (flA.get (k := 9) hL_ rfl (by kernel_rfl))
                exact punder_any HV2.out HP.out (by omega) HLE2.out HTa.out
              go_simp
              refine hK _ ?_
              clear hK K
              repeat (first | (refine fl_calm rfl (by decide) (by first | exact wanted_none rfl | (go_simp; done) | rfl) (fun w_ _ _ => by first | (go_simp; rfl) | (go_simp; done) | rfl) (fun K hK => ?_); go_simp; refine hK _ ?_; clear hK K) | (refine fl_skip rfl (by first | (go_simp; done) | rfl) (fun K hK => ?_); go_simp; refine hK _ ?_; clear hK K))
              refine fl_news rfl (by kernel_rfl) rfl (by first | exact wanted_none rfl | (go_simp; done) | rfl) (fun w_ => by first | (go_simp; exact ⟨rfl, rfl⟩) | (go_simp; rfl) | (go_simp; exact ⟨⟨rfl, rfl, rfl⟩, rfl⟩)) (fun w2_ w3_ g_ hL_ hg2_ hg_ hb_ => ?_) (fun A125 c125 K hK => ?_)
              · skip
                replace HSa := Lib.hid (HSa.out.grow hg_)
                exact parts1 hb_ HSa.out hn
              go_simp
              refine hK _ ?_
              clear hK K
              refine fl_callv rfl (by kernel_rfl) rfl (by first | exact wanted_none rfl | (go_simp; done) | rfl) (fun w_ => by first | (go_simp; exact ⟨rfl, rfl⟩) | (go_simp; rfl) | (go_simp; exact ⟨⟨rfl, rfl, rfl⟩, rfl⟩)) (fun w2_ hg_ hL_ => ?_) (fun K hK => ?_)
              · skip
                replace HTa := Lib.hid (HTa.out.grow hg_)
                have HP := Lib.hid (flA.get (k := 11) hL_ rfl (by kernel_rfl))
                exact punder_any HV1.out HP.out (by omega) HLE1.out HTa.out
              go_simp
              refine hK _ ?_
              clear hK K
              repeat (first | (refine fl_calm rfl (by decide) (by first | exact wanted_none rfl | (go_simp; done) | rfl) (fun w_ _ _ => by first | (go_simp; rfl) | (go_simp; done) | rfl) (fun K hK => ?_); go_simp; refine hK _ ?_; clear hK K) | (refine fl_skip rfl (by first | (go_simp; done) | rfl) (fun K hK => ?_); go_simp; refine hK _ ?_; clear hK K))
              refine fl_news rfl (by kernel_rfl) rfl (by first | exact wanted_none rfl | (go_simp; done) | rfl) (fun w_ => by first | (go_simp; exact ⟨rfl, rfl⟩) | (go_simp; rfl) | (go_simp; exact ⟨⟨rfl, rfl, rfl⟩, rfl⟩)) (fun w2_ w3_ g_ hL_ hg2_ hg_ hb_ => ?_) (fun A132 c132 K hK => ?_)
              · skip
                replace HSa := Lib.hid (HSa.out.grow hg_)
                exact parts1 hb_ HSa.out hn
              go_simp
              refine hK _ ?_
              clear hK K
              refine fl_callv rfl (by kernel_rfl) rfl (by first | exact wanted_none rfl | (go_simp; done) | rfl) (fun w_ => by first | (go_simp; exact ⟨rfl, rfl⟩) | (go_simp; rfl) | (go_simp; exact ⟨⟨rfl, rfl, rfl⟩, rfl⟩)) (fun w2_ hg_ hL_ => ?_) (fun K hK => ?_)
              · skip
                replace HTa := Lib.hid (HTa.out.grow hg_)
                have HP := Lib.hid (flA.get (k := 13) hL_ rfl (by kernel_rfl))
                exact punder_any HV1.out HP.out (by omega) HLE1.out HTa.out
              go_simp
              refine hK _ ?_
              clear hK K
              have hm1 := add1_b m
              repeat (first | (refine fl_calm rfl (by decide) (by first | exact wanted_none rfl | (go_simp; done) | rfl) (fun w_ _ _ => by first | (go_simp; rfl) | (go_simp; done) | rfl) (fun K hK => ?_); go_simp; refine hK _ ?_; clear hK K) | (refine fl_skip rfl (by first | (go_simp; done) | rfl) (fun K hK => ?_); go_simp; refine hK _ ?_; clear hK K))
              clear hm1
              refine fl_news rfl (by kernel_rfl) rfl (by first | exact wanted_none rfl | (go_simp; done) | rfl) (fun w_ => by first | (go_simp; exact ⟨rfl, rfl⟩) | (go_simp; rfl) | (go_simp; exact ⟨⟨rfl, rfl, rfl⟩, rfl⟩)) (fun w2_ w3_ g_ hL_ hg2_ hg_ hb_ => ?_) (fun A137 c137 K hK => ?_)
              · skip
                replace HSa := Lib.hid (HSa.out.grow hg_)
                exact parts1 hb_ HSa.out hn
              go_simp
              refine hK _ ?_
              clear hK K
              refine fl_callv rfl (by kernel_rfl) rfl (by first | exact wanted_none rfl | (go_simp; done) | rfl) (fun w_ => by first | (go_simp; exact ⟨rfl, rfl⟩) | (go_simp; rfl) | (go_simp; exact ⟨⟨rfl, rfl, rfl⟩, rfl⟩)) (fun w2_ hg_ hL_ => ?_) (fun K hK => ?_)
              · skip
                replace HTa := Lib.hid (HTa.out.grow hg_)
                have HP := Lib.hid (flA.get (k := 15) hL_ rfl (by kernel_rfl))
                exact punder_any HV3.out HP.out (by omega) HLE1.out HTa.out
              go_simp
              refine hK _ ?_
              clear hK K
              repeat (first | (refine fl_calm rfl (by decide) (by first | exact wanted_none rfl | (go_simp; done) | rfl) (fun w_ _ _ => by first | (go_simp; rfl) | (go_simp; done) | rfl) (fun K hK => ?_); go_simp; refine hK _ ?_; clear hK K) | (refine fl_skip rfl (by first | (go_simp; done) | rfl) (fun K hK => ?_); go_simp; refine hK _ ?_; clear hK K))
              refine fl_callv rfl (by kernel_rfl) rfl (by first | exact wanted_none rfl | (go_simp; done) | rfl) (fun w_ => by first | (go_simp; exact ⟨rfl, rfl⟩) | (go_simp; rfl) | (go_simp; exact ⟨⟨rfl, rfl, rfl⟩, rfl⟩)) (fun w2_ hg_ hL_ => ?_) (fun K hK => ?_)
              · skip
                replace HTa := Lib.hid (HTa.out.grow hg_)
                exact awake3_any _ HTa.out
              go_simp
              refine hK _ ?_
              clear hK K
              repeat (first | (refine fl_calm rfl (by decide) (by first | exact wanted_none rfl | (go_simp; done) | rfl) (fun w_ _ _ => by first | (go_simp; rfl) | (go_simp; done) | rfl) (fun K hK => ?_); go_simp; refine hK _ ?_; clear hK K) | (refine fl_skip rfl (by first | (go_simp; done) | rfl) (fun K hK => ?_); go_simp; refine hK _ ?_; clear hK K))
              refine fl_done ?_
              intro w2_ hg_ hL_
              replace HB := Lib.hid (HB.out.grow' hg_)
              clear hg_ hL_
              try clear w_
              rename World => w_
              go_wp2_with fail
              go_ret
              exact ⟨rfl, HB.out⟩
    · have g2 : decide ((n : Int) < 1) = true := by simp; omega
      go_enter Tryd.func7, Tryd.ntmps7
      go_wp2_with fail
      refine (awake3_any _ HT.out).mono ?_
      rintro e w_ ⟨rfl, hb_⟩
      have HB_ := Lib.hid (HB.out.grow' hb_)
      clear HB
      have HB := HB_
      clear HB_
      clear hb_
      go_wp2_with fail
      go_ret
      exact ⟨rfl, HB.out⟩
  · have g1 : decide (300 < (n : Int)) = true := by simp; omega
    go_enter Tryd.func7, Tryd.ntmps7
    go_wp2_with fail
    refine (awake3_any _ HT.out).mono ?_
    rintro e w_ ⟨rfl, hb_⟩
    have HB_ := Lib.hid (HB.out.grow' hb_)
    clear HB
    have HB := HB_
    clear HB_
    clear hb_
    go_wp2_with fail
    go_ret
    exact ⟨rfl, HB.out⟩
theorem shaOther_walk (A : Option Addr) (n c : Nat) (bs : List UInt8) (z t m : Int) (w : World) (hb : Sl w w.heap.size 1 A n (bs.map B)) (hn : n ≤ c) (hc : c ≤ maxLen) (hz : (Lit.int .i64 z).wf = true) (ht8 : (Lit.int .u8 t).wf = true) (hm : (Lit.int .u8 m).wf = true) (ht : Tabs w) :
    Calls Tryd.prog 7 #[.slice A n c, .int .i64 z, .int .u8 t, .int .u8 m] w fun e w' => e = .returned (.bool true) ∧ Below w.heap.size w w' := by
  have b1 := bounds_u8 ht8
  have b2 := bounds_u8 hm
  have e1 : t = b8 (UInt8.ofNat t.toNat) := by simp only [b8, UInt8.toNat_ofNat']; omega
  have e2 : m = b8 (UInt8.ofNat m.toNat) := by simp only [b8, UInt8.toNat_ofNat']; omega
  rw [e1, e2]
  have hr := b8_range (UInt8.ofNat t.toNat)
  exact shaOther_any A n c bs z (b8 (UInt8.ofNat t.toNat) % 8).toNat _ w hb hn (bounds_i64 hz).1 (bounds_i64 hz).2 _ (by omega) (by omega) ht
end Go.Proofs.YtlondennhhffdaaDoor

/- The walk of seisinlaw05.TreeRoots. -/
import Derived.Test.YtlondennhhffdaaDoorTreeRootsB16
/- The walk of seisinlaw05.TreeRoots. -/
namespace Go.Proofs.YtlondennhhffdaaDoor
open Go.RowKit Go.Shelf
set_option linter.unusedVariables false

set_option maxRecDepth 100000 in
theorem eql_b6 (d : Bool) (w : World) : (binOp .eql 4 (.bool d) (.bool d)).run Tryd.prog w = .ok (.bool true) w := by
  cases d <;> rfl
theorem map_set_snd (ps : List (Value × List UInt8)) (k : Nat) (v : Value) (b : List UInt8) : (ps.set k (v, b)).map Prod.snd = (ps.map Prod.snd).set k b := by rw [List.map_set]
theorem Parts.sets {w : World} {Bd n k : Nat} {A : Option Addr} {ps : List (Value × List UInt8)} {p : Value × List UInt8} (hs : Sl w Bd 1 A n ((ps.map Prod.fst).set k p.1)) (h : ∀ q ∈ ps, PartOK w Bd q) (hp : PartOK w Bd p) : Parts w Bd A n (ps.set k p) :=
  ⟨by rw [List.map_set]; exact hs, fun q hq => by
    rcases List.mem_or_eq_of_mem_set hq with h1 | h1
    · exact h q h1
    · rw [h1]; exact hp⟩
theorem slices_one (ps : List (Value × List UInt8)) (h : ∀ p ∈ ps, ∃ A n c, p.1 = .slice A n c) : ∀ u ∈ ps.map Prod.fst, u.oneCell' = true := by
  intro u hu
  obtain ⟨p, hp, rfl⟩ := List.mem_map.1 hu
  obtain ⟨A, n, c, e⟩ := h p hp
  rw [e]; rfl

set_option maxRecDepth 100000 in
set_option maxHeartbeats 4000000 in
theorem treeRoots_any (A Ab : Option Addr) (n c nb cb : Nat) (ps : List (Value × List UInt8)) (b : List UInt8) (z : Int) (w : World) (hp : Parts w w.heap.size A n ps) (hc : n ≤ c) (hs : Sl w w.heap.size 1 Ab nb (b.map B)) (hcb : nb ≤ cb) (hz : -9223372036854775808 ≤ z) (hz2 : z ≤ 9223372036854775807) (ht : Tabs w) :
    Calls Tryd.prog 16 #[.slice A n c, .slice Ab nb cb, .int .i64 z] w fun e w' => e = .returned (.bool true) ∧ Below w.heap.size w w' := by
  have HT := Lib.hid ht; have HP := Lib.hid hp; have HS := Lib.hid hs
  have HB := Lib.hid (Below.refl w.heap.size w)
  have HN := Lib.hid hp.len
  have HBL := Lib.hid (show b.length = nb by have := hs.len; simpa using this)
  have HONE := Lib.hid (slices_one ps (fun p hp2 => by obtain ⟨A', c', e, _⟩ := hp.2 p hp2; exact ⟨A', _, c', e⟩))
  clear ht hp hs
  by_cases hnb : nb ≤ 60
  · have g1 : decide (60 < (nb : Int)) = false := by simp; omega
    obtain ⟨xs, hxs⟩ := dig_root (ps.map Prod.snd)
    obtain ⟨ys, hys⟩ := dig_root (ps.map Prod.snd ++ [b])
    have HX := Lib.hid hxs; have HY := Lib.hid hys
    clear hxs hys
    obtain ⟨d1, hd1⟩ : ∃ d, (rootB (ps.map Prod.snd ++ [b]) == rootB (ps.map Prod.snd)) = d := ⟨_, rfl⟩
    have e1 := HY.out.eql_b HX.out hd1
    have e2 := HX.out.eql_b HY.out (beq_swap hd1)
    clear hd1
    go_enter Tryd.func16, Tryd.ntmps16
    go_wp2_with fail
    refine (great_any _ _ _ ps _ HP.out).mono ?_
    rintro e w_ ⟨gr, rfl, hg, hb_⟩
    have HGR := Lib.hid hg
    clear hg
    have HB_ := Lib.hid (HB.out.grow' hb_)
    have HT_ := Lib.hid (HT.out.grow hb_)
    have HP_ := Lib.hid (HP.out.grow hb_)
    have HS_ := Lib.hid (HS.out.grow hb_)
    clear HB HT HP HS
    have HB := HB_
    have HT := HT_
    have HP := HP_
    have HS := HS_
    clear HB_ HT_ HP_ HS_
    clear hb_
    cases gr with
    | true =>
      go_wp2_with fail
      refine (awake5_any _ HT.out).mono ?_
      rintro e w_ ⟨rfl, hb_⟩
      have HB_ := Lib.hid (HB.out.grow' hb_)
      clear HB
      have HB := HB_
      clear HB_
      clear hb_
      go_wp2_with fail
      go_ret
      exact ⟨rfl, HB.out⟩
    | false =>
      obtain ⟨h40, hl60⟩ := HGR.out rfl
      have HL := Lib.hid (fun p hp => Nat.le_trans (hl60 p hp) (show 60 ≤ 1000000 by omega))
      clear hl60 HGR
      go_wp2_with fail
      refine (root_any n n c A ps xs _ (Nat.le_refl _) HX.out HP.out hc (by omega) HL.out HT.out).mono ?_
      rintro e w_ ⟨rfl, hb_⟩
      have HB_ := Lib.hid (HB.out.grow' hb_)
      clear HB
      have HB := HB_
      clear HB_
      have HP_ := Lib.hid (HP.out.grow hb_)
      clear HP
      have HP := HP_
      clear HP_
      have HT_ := Lib.hid (HT.out.grow hb_)
      clear HT
      have HT := HT_
      clear HT_
      have HS_ := Lib.hid (HS.out.grow hb_)
      clear HS
      have HS := HS_
      clear HS_
      clear hb_
      go_wp2_with (first | (with_reducible refine wpl_alloc (o := ⟨some 7, _, _, _, _, _⟩) rfl rfl zero_id ?_))
      intro w1_ hb1_ hbw1_ hsz1_
      have HB1_ := Lib.hid (at_mk hb1_ len_id)
      have HBW1_ := Lib.hid hbw1_
      have HZ1_ := Lib.hid hsz1_
      clear hb1_ hbw1_ hsz1_
      go_wp2_with (first | (with_reducible refine wpl_storeb (o := ⟨none, .store _ _ _, _, _, _, _⟩) rfl rfl row_id HB1_.out.blk rfl rfl HB1_.out.len HX.out.len HX.out.one ?_))
      intro w2_ hb2_ hg2_ hsz2_
      have hb_ := var_grow HBW1_.out HZ1_.out hg2_
      have HX_ := Lib.hid (at_mk hb2_ HX.out.len)
      clear hb2_ hg2_ hsz2_ HB1_ HBW1_ HZ1_
      have HB_ := Lib.hid (HB.out.grow' hb_)
      clear HB
      have HB := HB_
      clear HB_
      have HP_ := Lib.hid (HP.out.grow hb_)
      clear HP
      have HP := HP_
      clear HP_
      have HT_ := Lib.hid (HT.out.grow hb_)
      clear HT
      have HT := HT_
      clear HT_
      have HS_ := Lib.hid (HS.out.grow hb_)
      clear HS
      have HS := HS_
      clear HS_
      generalize hg_ : w_.heap.size = gr at HX_ ⊢
      clear hg_
      have HVR := HX_
      clear hb_ HX_
      clear w1_
      try clear w_
      rename World => w_
      have HN0 := Lib.hid (World.ownsRow_lit (base := w_.heap.size) (e := 22) (size := 1) w_ #[] 0 (Nat.le_refl _) (by simp [maxLen]) rfl)
      have HSA := Lib.hid (HP.out.1.alloc (Nat.le_refl _) (.cells #[] 22))
      go_wp2_with (at_builtin; refine wpl_apps rfl rfl el_su8 HN0.out rfl HSA.out rfl HONE.out (by omega) (by omega) (Nat.le_of_lt (by simp)) ?_)
      intro A24 c24 w4 ho hg hA
      have HG4 := Lib.hid (show Grow w_ w4 from ((Below.refl w_.heap.size w_).alloc (Nat.le_refl _) (.cells #[] 22)).grown hg (by simp) (by intro k hk; cases hk; exact Nat.le_refl _))
      have HO4 := Lib.hid ho
      clear ho hg hA HN0 HSA
      have HSZ := Lib.hid (Sl.lit (sz := 1) w4 #[.slice Ab nb cb] 22 1 rfl)
      have HO5 := Lib.hid (own_alloc HO4.out (.cells #[.slice Ab nb cb] 22))
      have HG5 := Lib.hid (show w_.heap.size ≤ (w4.alloc (.cells #[.slice Ab nb cb] 22)).heap.size from Nat.le_trans HG4.out.size (by simp))
      have HA0 := Lib.hid (show ∀ u ∈ (#[.slice Ab nb cb] : Array Value).toList, u.oneCell' = true from by intro u hu; simp at hu; subst hu; rfl)
      go_wp2_with (at_builtin; refine wpl_apps rfl rfl el_su8 HO5.out rfl HSZ.out rfl HA0.out (by omega) (by omega) HG5.out ?_)
      intro A27 c27 w5 ho hg hA
      have hb5 : Grow w_ w5 := (HG4.out.alloc HG4.out.size (.cells #[.slice Ab nb cb] 22)).grown hg HG5.out (own_from HO5.out)
      have HB_ := Lib.hid (HB.out.grow' hb5)
      have HT_ := Lib.hid (HT.out.grow hb5)
      have HP_ := Lib.hid (HP.out.grow hb5)
      have HS_ := Lib.hid (HS.out.grow hb5)
      have HVR_ := Lib.hid (HVR.out.grow hb5)
      clear HB HT HP HS HVR
      have HB := HB_
      have HT := HT_
      have HP := HP_
      have HS := HS_
      have HVR := HVR_
      clear HB_ HT_ HP_ HS_ HVR_
      have HMP := Lib.hid (show Parts w5 w5.heap.size A27 (n + 1) (ps ++ [(.slice Ab nb cb, b)]) from
        parts_mk (by have h := Sl.of_own ho; rw [List.map_append]; simpa using h) (by
          intro q hq
          rcases List.mem_append.1 hq with hq | hq
          · exact HP.out.2 q hq
          · simp only [List.mem_singleton] at hq; subst hq; exact part_mk HS.out hcb))
      have hn27 : n + 1 ≤ c27 := by obtain ⟨_, _, _, _, h⟩ := own_form ho (by omega); omega
      clear ho hg hA HO4 HO5 HG4 HG5 HSZ HA0 hb5
      try clear w4
      try clear w_
      rename World => w_
      have HYM := Lib.hid (show Dig ys (rootB ((ps ++ [(Value.slice Ab nb cb, b)]).map Prod.snd)) by simp only [List.map_append, List.map_cons, List.map_nil]; exact HY.out)
      have HLM := Lib.hid (show ∀ p ∈ ps ++ [(Value.slice Ab nb cb, b)], p.2.length ≤ 1000000 from by
        intro q hq
        rcases List.mem_append.1 hq with hq | hq
        · exact HL.out q hq
        · simp only [List.mem_singleton] at hq; subst hq; rw [HBL.out]; omega)
      go_wp2_with fail
      refine (rroot_any (n + 1) (n + 1) c27 A27 _ ys _ (Nat.le_refl _) HYM.out HMP.out hn27 (by omega) HLM.out HT.out).mono ?_
      rintro e w_ ⟨rfl, hb_⟩
      have HB_ := Lib.hid (HB.out.grow' hb_)
      clear HB
      have HB := HB_
      clear HB_
      have HP_ := Lib.hid (HP.out.grow hb_)
      clear HP
      have HP := HP_
      clear HP_
      have HT_ := Lib.hid (HT.out.grow hb_)
      clear HT
      have HT := HT_
      clear HT_
      have HS_ := Lib.hid (HS.out.grow hb_)
      clear HS
      have HS := HS_
      clear HS_
      have HVR_ := Lib.hid (HVR.out.grow hb_)
      clear HVR
      have HVR := HVR_
      clear HVR_
      have HMP_ := Lib.hid (HMP.out.grow hb_)
      clear HMP
      have HMP := HMP_
      clear HMP_
      clear hb_
      go_wp2_with fail
      refine (rroot_any n n c A ps xs _ (Nat.le_refl _) HX.out HP.out hc (by omega) HL.out HT.out).mono ?_
      rintro e w_ ⟨rfl, hb_⟩
      have HB_ := Lib.hid (HB.out.grow' hb_)
      clear HB
      have HB := HB_
      clear HB_
      have HP_ := Lib.hid (HP.out.grow hb_)
      clear HP
      have HP := HP_
      clear HP_
      have HT_ := Lib.hid (HT.out.grow hb_)
      clear HT
      have HT := HT_
      clear HT_
      have HS_ := Lib.hid (HS.out.grow hb_)
      clear HS
      have HS := HS_
      clear HS_
      have HVR_ := Lib.hid (HVR.out.grow hb_)
      clear HVR
      have HVR := HVR_
      clear HVR_
      have HMP_ := Lib.hid (HMP.out.grow hb_)
      clear HMP
      have HMP := HMP_
      clear HMP_
      clear hb_
      cases d1 with
      | true =>
        go_wp2_with fail
        refine (awake5_any _ HT.out).mono ?_
        rintro e w_ ⟨rfl, hb_⟩
        have HB_ := Lib.hid (HB.out.grow' hb_)
        clear HB
        have HB := HB_
        clear HB_
        clear hb_
        go_wp2_with fail
        go_ret
        exact ⟨rfl, HB.out⟩
      | false =>
        go_wp2_with fail
        try go_wp2_with fail
        repeat' (first | (with_reducible refine wp_flow (id := 7) [0,0,2,7] [0,0,3,0] (fun i => match i with | 2 => spV (.agg ys.toArray) | _ => spV undef) (by kernel_rfl) (by kernel_rfl) ?_) | go_values | go_skip | go_guarded | go_step | go_upon | go_back)
        intro w_ hd_
        have hb_ := hd_.grow
        have HB_ := Lib.hid (HB.out.grow' hb_)
        clear HB
        have HB := HB_
        clear HB_
        have HP_ := Lib.hid (HP.out.grow hb_)
        clear HP
        have HP := HP_
        clear HP_
        have HT_ := Lib.hid (HT.out.grow hb_)
        clear HT
        have HT := HT_
        clear HT_
        have HS_ := Lib.hid (HS.out.grow hb_)
        clear HS
        have HS := HS_
        clear HS_
        have HVR_ := Lib.hid (HVR.out.grow hb_)
        clear HVR
        have HVR := HVR_
        clear HVR_
        have HMP_ := Lib.hid (HMP.out.grow hb_)
        clear HMP
        have HMP := HMP_
        clear HMP_
        clear hb_ hd_
        show wpL _ _ _ _ _ _ _ [0,1,2,3] _ _
        repeat (first | (refine fl_calm rfl (by decide) (by first | exact wanted_none rfl | (go_simp; done) | fail) (fun w_ _ _ => by first | (go_simp; rfl) | (go_simp; done) | rfl) (fun K hK => ?_); go_simp; refine hK _ ?_; clear hK K) | (refine fl_skip rfl (by first | (go_simp; done) | fail) (fun K hK => ?_); go_simp; refine hK _ ?_; clear hK K) | (refine fl_loadb rfl (by decide) (by first | exact wanted_none rfl | (go_simp; done) | fail) rfl row_id HVR.out.blk (by first | rfl | (go_simp; done) | rfl) HVR.out.len (fun K hK => ?_); go_simp; refine hK _ ?_; clear hK K))
        refine fl_callv rfl (by kernel_rfl) rfl (by first | exact wanted_none rfl | (go_simp; done) | fail) (fun w_ => by first | (go_simp; exact ⟨rfl, rfl⟩) | (go_simp; rfl) | (go_simp; exact ⟨⟨rfl, rfl, rfl⟩, rfl⟩)) (fun w2_ hg_ hL_ => ?_) (fun K hK => ?_)
        · skip
          replace HMP := Lib.hid (HMP.out.grow hg_)
          replace HT := Lib.hid (HT.out.grow hg_)
          exact root_any (n + 1) (n + 1) c27 A27 _ ys _ (Nat.le_refl _) HYM.out HMP.out hn27 (by omega) HLM.out HT.out
        go_simp
        refine hK _ ?_
        clear hK K
        repeat (first | (refine fl_calm rfl (by decide) (by first | exact wanted_none rfl | (go_simp; done) | fail) (fun w_ _ _ => by first | (go_simp; rfl) | (go_simp; done) | rfl) (fun K hK => ?_); go_simp; refine hK _ ?_; clear hK K) | (refine fl_skip rfl (by first | (go_simp; done) | fail) (fun K hK => ?_); go_simp; refine hK _ ?_; clear hK K))
        refine fl_done ?_
        intro w2_ hg_ hL_
        replace HB := Lib.hid (HB.out.grow' hg_)
        replace HP := Lib.hid (HP.out.grow hg_)
        replace HT := Lib.hid (HT.out.grow hg_)
        replace HS := Lib.hid (HS.out.grow hg_)
        replace HVR := Lib.hid (HVR.out.grow hg_)
        clear hg_ hL_
        try clear w_
        rename World => w_
        by_cases h1 : 1 ≤ n
        · have g2 : decide ((n : Int) < 1) = false := by simp; omega
          have g2f := eq_false (show ¬ ((n : Int) < 1) by omega)
          obtain ⟨k, hk⟩ : ∃ k : Nat, z % (n : Int) = (k : Int) := ⟨(z % (n : Int)).toNat, by have := Int.emod_nonneg z (show (n : Int) ≠ 0 by omega); omega⟩
          have hkn : k < n := by have := Int.emod_lt_of_pos z (show 0 < (n : Int) by omega); omega
          have HK := Lib.hid hk
          clear hk
          go_wp2_with fail
          refine (pick_any z n _ hz hz2 (by omega) (by omega)).mono ?_
          rintro e w1 ⟨rfl, hw1⟩
          rw [hw1, HK.out]
          clear hw1
          clear w1
          obtain ⟨bA, oA, A2, c2, bk, rfl, hpk, hcl, hcc, hsk⟩ := HP.out.at_ hkn
          have HPK := Lib.hid hpk
          have HSK := Lib.hid hsk
          have HBK := Lib.hid (World.block_lt_of_cell? w_ _ hcl)
          have HCL := Lib.hid hcl
          clear hpk hsk hcl
          have HN0 := Lib.hid (World.ownsRow_lit (base := w_.heap.size) (e := 22) (size := 1) w_ #[] 0 (Nat.le_refl _) (by simp [maxLen]) rfl)
          have HSA := Lib.hid (HP.out.1.alloc (Nat.le_refl _) (.cells #[] 22))
          go_wp2_with (at_builtin; refine wpl_apps rfl rfl el_su8 HN0.out rfl HSA.out rfl HONE.out (by omega) (by omega) (Nat.le_of_lt (by simp)) ?_)
          intro A10 c10 w4 ho hg hA
          have hb4 : Grow w_ w4 := ((Below.refl w_.heap.size w_).alloc (Nat.le_refl _) (.cells #[] 22)).grown hg (by simp) (by intro k hk; cases hk; exact Nat.le_refl _)
          have HO := Lib.hid (show w4.ownsRow w_.heap.size 22 1 (.slice A10 n c10) n (ps.map Prod.fst) by simpa using ho)
          clear ho hg hA HN0 HSA
          obtain ⟨g10, rfl, hg10, hlt10, hn10⟩ := own_form HO.out (by omega)
          have hcx : w4.cell? ⟨g10, k, none⟩ = some (.slice A2 bk.length c2) := by
            have h := World.ownsRow.cellAt HO.out k (by omega)
            rw [h, List.getElem?_map, HPK.out]; rfl
          have hfz : w4.frozen? ⟨g10, k, none⟩ = false := own_frozen HO.out k
          have hgx : Grow w_ (w4.setCell ⟨g10, k, none⟩ (.slice Ab nb cb)) := hb4.setCell (p := ⟨g10, k, none⟩) hg10 _
          have HXO := Lib.hid (Sl.of_own (World.ownsRow.stored HO.out k (.slice Ab nb cb)).1)
          have HCX := Lib.hid ((hgx.cell HBK.out).trans HCL.out)
          have HCV := Lib.hid hcx
          have HFZ := Lib.hid hfz
          clear hcx hfz HO hb4 hlt10 HBK HCL
          have HGX := Lib.hid hgx
          clear hgx
          have hcell := HCX.out
          have hcx := HCV.out
          have hfz := HFZ.out
          go_wp2_with fail
          clear hcell hcx hfz HCV HFZ
          have hgx := HGX.out
          generalize w4.setCell ⟨g10, k, none⟩ (.slice Ab nb cb) = w5 at HXO HCX hgx ⊢
          clear HGX
          have HB_ := Lib.hid (HB.out.grow' hgx)
          have HT_ := Lib.hid (HT.out.grow hgx)
          have HP_ := Lib.hid (HP.out.grow hgx)
          have HS_ := Lib.hid (HS.out.grow hgx)
          have HVR_ := Lib.hid (HVR.out.grow hgx)
          have HSK_ := Lib.hid (HSK.out.grow hgx)
          clear HB HT HP HS HVR HSK
          have HB := HB_
          have HT := HT_
          have HP := HP_
          have HS := HS_
          have HVR := HVR_
          have HSK := HSK_
          clear HB_ HT_ HP_ HS_ HVR_ HSK_
          clear hgx HCX
          try clear w4
          try clear w_
          rename World => w_
          have HXP := Lib.hid (show Parts w_ w_.heap.size (some ⟨g10, 0, none⟩) n (ps.set k (Value.slice Ab nb cb, b)) from Parts.sets HXO.out HP.out.2 (part_mk HS.out hcb))
          clear HXO
          obtain ⟨sm, hsm⟩ : ∃ d, decide (b = bk) = d := ⟨_, rfl⟩
          have HSM := Lib.hid hsm
          obtain ⟨zs, hzs⟩ := dig_root ((ps.set k (Value.slice Ab nb cb, b)).map Prod.snd)
          obtain ⟨ws, hws⟩ := dig_root ((ps.drop 1).map Prod.snd)
          have HZ := Lib.hid hzs; have HW := Lib.hid hws
          clear hzs hws hsm
          have HLX := Lib.hid (show ∀ p ∈ ps.set k (Value.slice Ab nb cb, b), p.2.length ≤ 1000000 from by
            intro q hq
            rcases List.mem_or_eq_of_mem_set hq with h1 | h1
            · exact HL.out q h1
            · rw [h1]; show b.length ≤ 1000000; rw [HBL.out]; omega)
          have HLD := Lib.hid (show ∀ p ∈ ps.drop 1, p.2.length ≤ 1000000 from fun q hq => HL.out q (List.mem_of_mem_drop hq))
          obtain ⟨d2, hd2⟩ : ∃ d, (rootB ((ps.set k (Value.slice Ab nb cb, b)).map Prod.snd) == rootB (ps.map Prod.snd)) = d := ⟨_, rfl⟩
          obtain ⟨d3, hd3⟩ : ∃ d, (rootB ((ps.drop 1).map Prod.snd) == rootB (ps.map Prod.snd)) = d := ⟨_, rfl⟩
          have q2 := HZ.out.eql_b HX.out hd2
          have q3 := HW.out.eql_b HX.out hd3
          have m3 := HW.out.neq_b HX.out hd3
          have HD2 := Lib.hid hd2
          clear hd2 hd3
          have hc1 : 1 ≤ c := by omega
          refine (bytes1_any HSM.out _ HS.out HSK.out (by omega)).mono ?_
          rintro e w5_ ⟨rfl, hb_⟩
          have hb_ := hb_
          clear hb_
          have HB_ := Lib.hid (HB.out.grow' hb_)
          clear HB
          have HB := HB_
          clear HB_
          have HT_ := Lib.hid (HT.out.grow hb_)
          clear HT
          have HT := HT_
          clear HT_
          have HP_ := Lib.hid (HP.out.grow hb_)
          clear HP
          have HP := HP_
          clear HP_
          have HVR_ := Lib.hid (HVR.out.grow hb_)
          clear HVR
          have HVR := HVR_
          clear HVR_
          have HXP_ := Lib.hid (HXP.out.grow hb_)
          clear HXP
          have HXP := HXP_
          clear HXP_
          clear hb_
          try clear w_
          rename World => w_
          have HPD := Lib.hid (HP.out.from1 h1 hc)
          generalize (some (⟨bA, oA, none⟩ : Addr)) = A at HP HPD ⊢
          by_cases hce : c = 1
          · subst hce
            obtain rfl : n = 1 := by omega
            have HPD_ := Lib.hid (show Parts w_ w_.heap.size A 0 (ps.drop 1) by have h := HPD.out; rw [if_pos rfl] at h; exact h)
            clear HPD
            have HPD := HPD_
            clear HPD_
            cases sm with
            | true =>
              have HZX := Lib.hid (show d2 = true by
                have hb : b = bk := by simpa using HSM.out
                have e : (ps.set k (Value.slice Ab nb cb, b)).map Prod.snd = ps.map Prod.snd := by
                  rw [map_set_snd, hb]
                  apply List.ext_getElem?
                  intro i
                  rw [List.getElem?_set]
                  split
                  · rename_i hki
                    subst hki
                    split
                    · rw [List.getElem?_map, HPK.out]; rfl
                    · rename_i hlt; rw [List.length_map] at hlt; rw [List.getElem?_eq_none (by rw [List.length_map]; omega)]
                  · rfl
                rw [← HD2.out, e]; simp)
              have hd2 := HZX.out
              subst hd2
              go_wp2_with fail
              refine (rroot_any 1 1 c10 _ (ps.set k (Value.slice Ab nb cb, b)) zs _ (Nat.le_refl _) HZ.out HXP.out hn10 (by omega) HLX.out HT.out).mono ?_
              rintro e w_ ⟨rfl, hb_⟩
              have HB_ := Lib.hid (HB.out.grow' hb_)
              clear HB
              have HB := HB_
              clear HB_
              have HP_ := Lib.hid (HP.out.grow hb_)
              clear HP
              have HP := HP_
              clear HP_
              have HT_ := Lib.hid (HT.out.grow hb_)
              clear HT
              have HT := HT_
              clear HT_
              have HVR_ := Lib.hid (HVR.out.grow hb_)
              clear HVR
              have HVR := HVR_
              clear HVR_
              have HXP_ := Lib.hid (HXP.out.grow hb_)
              clear HXP
              have HXP := HXP_
              clear HXP_
              have HPD_ := Lib.hid (HPD.out.grow hb_)
              clear HPD
              have HPD := HPD_
              clear HPD_
              clear hb_
              go_wp2_with fail
              refine (rroot_any 1 1 1 _ ps xs _ (Nat.le_refl _) HX.out HP.out hc (by omega) HL.out HT.out).mono ?_
              rintro e w_ ⟨rfl, hb_⟩
              have HB_ := Lib.hid (HB.out.grow' hb_)
              clear HB
              have HB := HB_
              clear HB_
              have HP_ := Lib.hid (HP.out.grow hb_)
              clear HP
              have HP := HP_
              clear HP_
              have HT_ := Lib.hid (HT.out.grow hb_)
              clear HT
              have HT := HT_
              clear HT_
              have HVR_ := Lib.hid (HVR.out.grow hb_)
              clear HVR
              have HVR := HVR_
              clear HVR_
              have HXP_ := Lib.hid (HXP.out.grow hb_)
              clear HXP
              have HXP := HXP_
              clear HXP_
              have HPD_ := Lib.hid (HPD.out.grow hb_)
              clear HPD
              have HPD := HPD_
              clear HPD_
              clear hb_
              go_wp2_with fail
              refine (rroot_any 0 0 0 _ (ps.drop 1) ws _ (Nat.le_refl _) HW.out HPD.out (by omega) (by omega) HLD.out HT.out).mono ?_
              rintro e w_ ⟨rfl, hb_⟩
              have HB_ := Lib.hid (HB.out.grow' hb_)
              clear HB
              have HB := HB_
              clear HB_
              have HP_ := Lib.hid (HP.out.grow hb_)
              clear HP
              have HP := HP_
              clear HP_
              have HT_ := Lib.hid (HT.out.grow hb_)
              clear HT
              have HT := HT_
              clear HT_
              have HVR_ := Lib.hid (HVR.out.grow hb_)
              clear HVR
              have HVR := HVR_
              clear HVR_
              have HXP_ := Lib.hid (HXP.out.grow hb_)
              clear HXP
              have HXP := HXP_
              clear HXP_
              have HPD_ := Lib.hid (HPD.out.grow hb_)
              clear HPD
              have HPD := HPD_
              clear HPD_
              clear hb_
              go_wp2_with fail
              refine (rroot_any 1 1 1 _ ps xs _ (Nat.le_refl _) HX.out HP.out hc (by omega) HL.out HT.out).mono ?_
              rintro e w_ ⟨rfl, hb_⟩
              have HB_ := Lib.hid (HB.out.grow' hb_)
              clear HB
              have HB := HB_
              clear HB_
              have HP_ := Lib.hid (HP.out.grow hb_)
              clear HP
              have HP := HP_
              clear HP_
              have HT_ := Lib.hid (HT.out.grow hb_)
              clear HT
              have HT := HT_
              clear HT_
              have HVR_ := Lib.hid (HVR.out.grow hb_)
              clear HVR
              have HVR := HVR_
              clear HVR_
              have HXP_ := Lib.hid (HXP.out.grow hb_)
              clear HXP
              have HXP := HXP_
              clear HXP_
              have HPD_ := Lib.hid (HPD.out.grow hb_)
              clear HPD
              have HPD := HPD_
              clear HPD_
              clear hb_
              cases d3 with
              | true =>
                go_wp2_with fail
                refine (awake5_any _ HT.out).mono ?_
                rintro e w_ ⟨rfl, hb_⟩
                have HB_ := Lib.hid (HB.out.grow' hb_)
                clear HB
                have HB := HB_
                clear HB_
                clear hb_
                go_wp2_with fail
                go_ret
                exact ⟨rfl, HB.out⟩
              | false =>
                go_wp2_with fail
                try go_wp2_with fail
                repeat' (first | (with_reducible refine wp_flow (id := 17) [0,1,0,7,0,31,63,127,255,511,127,2047,4095,8191,16383,32767,65535] [0,3,0,0,0,0,0,0,0,3,0,0,0,0,3,0,0] (fun i => match i with | 1 => spV (.agg zs.toArray) | 9 => spV (.agg ws.toArray) | 14 => spV (.bool true) | _ => spV undef) (by kernel_rfl) (by kernel_rfl) ?_) | go_values | go_skip | go_guarded | go_step | go_upon | go_back)
                intro w_ hd_
                have hb_ := hd_.grow
                have HB_ := Lib.hid (HB.out.grow' hb_)
                clear HB
                have HB := HB_
                clear HB_
                have HT_ := Lib.hid (HT.out.grow hb_)
                clear HT
                have HT := HT_
                clear HT_
                have HP_ := Lib.hid (HP.out.grow hb_)
                clear HP
                have HP := HP_
                clear HP_
                have HXP_ := Lib.hid (HXP.out.grow hb_)
                clear HXP
                have HXP := HXP_
                clear HXP_
                have HVR_ := Lib.hid (HVR.out.grow hb_)
                clear HVR
                have HVR := HVR_
                clear HVR_
                have HPD_ := Lib.hid (HPD.out.grow hb_)
                clear HPD
                have HPD := HPD_
                clear HPD_
                clear hb_ hd_
                show wpL _ _ _ _ _ _ _ [0,1,2,3,4,5,6,7,8,9,10,11,12,13,14,15,16] _ _
                repeat (first | (refine fl_calm rfl (by decide) (by first | exact wanted_none rfl | (go_simp; done) | fail) (fun w_ _ _ => by first | (go_simp; rfl) | (go_simp; done) | rfl) (fun K hK => ?_); go_simp; refine hK _ ?_; clear hK K) | (refine fl_skip rfl (by first | (go_simp; done) | fail) (fun K hK => ?_); go_simp; refine hK _ ?_; clear hK K) | (refine fl_loadb rfl (by decide) (by first | exact wanted_none rfl | (go_simp; done) | fail) rfl row_id HVR.out.blk (by first | rfl | (go_simp; done) | rfl) HVR.out.len (fun K hK => ?_); go_simp; refine hK _ ?_; clear hK K))
                refine fl_callv rfl (by kernel_rfl) rfl (by first | exact wanted_none rfl | (go_simp; done) | fail) (fun w_ => by first | (go_simp; exact ⟨rfl, rfl⟩) | (go_simp; rfl) | (go_simp; exact ⟨⟨rfl, rfl, rfl⟩, rfl⟩)) (fun w2_ hg_ hL_ => ?_) (fun K hK => ?_)
                · skip
                  replace HXP := Lib.hid (HXP.out.grow hg_)
                  replace HT := Lib.hid (HT.out.grow hg_)
                  exact root_any 1 1 c10 _ (ps.set k (Value.slice Ab nb cb, b)) zs _ (Nat.le_refl _) HZ.out HXP.out hn10 (by omega) HLX.out HT.out
                go_simp
                refine hK _ ?_
                clear hK K
                repeat (first | (refine fl_calm rfl (by decide) (by first | exact wanted_none rfl | (go_simp; done) | fail) (fun w_ _ _ => by first | (go_simp; rfl) | (go_simp; done) | rfl) (fun K hK => ?_); go_simp; refine hK _ ?_; clear hK K) | (refine fl_skip rfl (by first | (go_simp; done) | fail) (fun K hK => ?_); go_simp; refine hK _ ?_; clear hK K) | (refine fl_loadb rfl (by decide) (by first | exact wanted_none rfl | (go_simp; done) | fail) rfl row_id HVR.out.blk (by first | rfl | (go_simp; done) | rfl) HVR.out.len (fun K hK => ?_); go_simp; refine hK _ ?_; clear hK K))
                refine fl_callv rfl (by kernel_rfl) rfl (by first | exact wanted_none rfl | (go_simp; done) | fail) (fun w_ => by first | (go_simp; exact ⟨rfl, rfl⟩) | (go_simp; rfl) | (go_simp; exact ⟨⟨rfl, rfl, rfl⟩, rfl⟩)) (fun w2_ hg_ hL_ => ?_) (fun K hK => ?_)
                · skip
                  replace HPD := Lib.hid (HPD.out.grow hg_)
                  replace HT := Lib.hid (HT.out.grow hg_)
                  exact root_any 0 0 0 _ (ps.drop 1) ws _ (Nat.le_refl _) HW.out HPD.out (by omega) (by omega) HLD.out HT.out
                go_simp
                refine hK _ ?_
                clear hK K
                repeat (first | (refine fl_calm rfl (by decide) (by first | exact wanted_none rfl | (go_simp; done) | fail) (fun w_ _ _ => by first | (go_simp; rfl) | (go_simp; done) | rfl) (fun K hK => ?_); go_simp; refine hK _ ?_; clear hK K) | (refine fl_skip rfl (by first | (go_simp; done) | fail) (fun K hK => ?_); go_simp; refine hK _ ?_; clear hK K) | (refine fl_loadb rfl (by decide) (by first | exact wanted_none rfl | (go_simp; done) | fail) rfl row_id HVR.out.blk (by first | rfl | (go_simp; done) | rfl) HVR.out.len (fun K hK => ?_); go_simp; refine hK _ ?_; clear hK K))
                refine fl_callv rfl (by kernel_rfl) rfl (by first | exact wanted_none rfl | (go_simp; done) | fail) (fun w_ => by first | (go_simp; exact ⟨rfl, rfl⟩) | (go_simp; rfl) | (go_simp; exact ⟨⟨rfl, rfl, rfl⟩, rfl⟩)) (fun w2_ hg_ hL_ => ?_) (fun K hK => ?_)
                · skip
                  replace HT := Lib.hid (HT.out.grow hg_)
                  exact awake5_any _ HT.out
                go_simp
                refine hK _ ?_
                clear hK K
                repeat (first | (refine fl_calm rfl (by decide) (by first | exact wanted_none rfl | (go_simp; done) | fail) (fun w_ _ _ => by first | (go_simp; rfl) | (go_simp; done) | rfl) (fun K hK => ?_); go_simp; refine hK _ ?_; clear hK K) | (refine fl_skip rfl (by first | (go_simp; done) | fail) (fun K hK => ?_); go_simp; refine hK _ ?_; clear hK K))
                refine fl_done ?_
                intro w2_ hg_ hL_
                replace HB := Lib.hid (HB.out.grow' hg_)
                clear hg_ hL_
                try clear w_
                rename World => w_
                go_wp2_with fail
                go_ret
                exact ⟨rfl, HB.out⟩
            | false =>
              go_wp2_with fail
              refine (rroot_any 1 1 c10 _ (ps.set k (Value.slice Ab nb cb, b)) zs _ (Nat.le_refl _) HZ.out HXP.out hn10 (by omega) HLX.out HT.out).mono ?_
              rintro e w_ ⟨rfl, hb_⟩
              have HB_ := Lib.hid (HB.out.grow' hb_)
              clear HB
              have HB := HB_
              clear HB_
              have HP_ := Lib.hid (HP.out.grow hb_)
              clear HP
              have HP := HP_
              clear HP_
              have HT_ := Lib.hid (HT.out.grow hb_)
              clear HT
              have HT := HT_
              clear HT_
              have HVR_ := Lib.hid (HVR.out.grow hb_)
              clear HVR
              have HVR := HVR_
              clear HVR_
              have HXP_ := Lib.hid (HXP.out.grow hb_)
              clear HXP
              have HXP := HXP_
              clear HXP_
              have HPD_ := Lib.hid (HPD.out.grow hb_)
              clear HPD
              have HPD := HPD_
              clear HPD_
              clear hb_
              go_wp2_with fail
              refine (rroot_any 1 1 1 _ ps xs _ (Nat.le_refl _) HX.out HP.out hc (by omega) HL.out HT.out).mono ?_
              rintro e w_ ⟨rfl, hb_⟩
              have HB_ := Lib.hid (HB.out.grow' hb_)
              clear HB
              have HB := HB_
              clear HB_
              have HP_ := Lib.hid (HP.out.grow hb_)
              clear HP
              have HP := HP_
              clear HP_
              have HT_ := Lib.hid (HT.out.grow hb_)
              clear HT
              have HT := HT_
              clear HT_
              have HVR_ := Lib.hid (HVR.out.grow hb_)
              clear HVR
              have HVR := HVR_
              clear HVR_
              have HXP_ := Lib.hid (HXP.out.grow hb_)
              clear HXP
              have HXP := HXP_
              clear HXP_
              have HPD_ := Lib.hid (HPD.out.grow hb_)
              clear HPD
              have HPD := HPD_
              clear HPD_
              clear hb_
              cases d2 with
              | true =>
                go_wp2_with fail
                refine (awake5_any _ HT.out).mono ?_
                rintro e w_ ⟨rfl, hb_⟩
                have HB_ := Lib.hid (HB.out.grow' hb_)
                clear HB
                have HB := HB_
                clear HB_
                clear hb_
                go_wp2_with fail
                go_ret
                exact ⟨rfl, HB.out⟩
              | false =>
                go_wp2_with fail
                refine (rroot_any 0 0 0 _ (ps.drop 1) ws _ (Nat.le_refl _) HW.out HPD.out (by omega) (by omega) HLD.out HT.out).mono ?_
                rintro e w_ ⟨rfl, hb_⟩
                have HB_ := Lib.hid (HB.out.grow' hb_)
                clear HB
                have HB := HB_
                clear HB_
                have HP_ := Lib.hid (HP.out.grow hb_)
                clear HP
                have HP := HP_
                clear HP_
                have HT_ := Lib.hid (HT.out.grow hb_)
                clear HT
                have HT := HT_
                clear HT_
                have HVR_ := Lib.hid (HVR.out.grow hb_)
                clear HVR
                have HVR := HVR_
                clear HVR_
                have HXP_ := Lib.hid (HXP.out.grow hb_)
                clear HXP
                have HXP := HXP_
                clear HXP_
                have HPD_ := Lib.hid (HPD.out.grow hb_)
                clear HPD
                have HPD := HPD_
                clear HPD_
                clear hb_
                go_wp2_with fail
                refine (rroot_any 1 1 1 _ ps xs _ (Nat.le_refl _) HX.out HP.out hc (by omega) HL.out HT.out).mono ?_
                rintro e w_ ⟨rfl, hb_⟩
                have HB_ := Lib.hid (HB.out.grow' hb_)
                clear HB
                have HB := HB_
                clear HB_
                have HP_ := Lib.hid (HP.out.grow hb_)
                clear HP
                have HP := HP_
                clear HP_
                have HT_ := Lib.hid (HT.out.grow hb_)
                clear HT
                have HT := HT_
                clear HT_
                have HVR_ := Lib.hid (HVR.out.grow hb_)
                clear HVR
                have HVR := HVR_
                clear HVR_
                have HXP_ := Lib.hid (HXP.out.grow hb_)
                clear HXP
                have HXP := HXP_
                clear HXP_
                have HPD_ := Lib.hid (HPD.out.grow hb_)
                clear HPD
                have HPD := HPD_
                clear HPD_
                clear hb_
                cases d3 with
                | true =>
                  go_wp2_with fail
                  refine (awake5_any _ HT.out).mono ?_
                  rintro e w_ ⟨rfl, hb_⟩
                  have HB_ := Lib.hid (HB.out.grow' hb_)
                  clear HB
                  have HB := HB_
                  clear HB_
                  clear hb_
                  go_wp2_with fail
                  go_ret
                  exact ⟨rfl, HB.out⟩
                | false =>
                  go_wp2_with fail
                  try go_wp2_with fail
                  repeat' (first | (with_reducible refine wp_flow (id := 17) [0,1,0,7,0,31,63,127,255,511,127,2047,4095,8191,16383,32767,65535] [0,3,0,0,0,0,0,0,0,3,0,0,0,0,3,0,0] (fun i => match i with | 1 => spV (.agg zs.toArray) | 9 => spV (.agg ws.toArray) | 14 => spV (.bool true) | _ => spV undef) (by kernel_rfl) (by kernel_rfl) ?_) | go_values | go_skip | go_guarded | go_step | go_upon | go_back)
                  intro w_ hd_
                  have hb_ := hd_.grow
                  have HB_ := Lib.hid (HB.out.grow' hb_)
                  clear HB
                  have HB := HB_
                  clear HB_
                  have HT_ := Lib.hid (HT.out.grow hb_)
                  clear HT
                  have HT := HT_
                  clear HT_
                  have HP_ := Lib.hid (HP.out.grow hb_)
                  clear HP
                  have HP := HP_
                  clear HP_
                  have HXP_ := Lib.hid (HXP.out.grow hb_)
                  clear HXP
                  have HXP := HXP_
                  clear HXP_
                  have HVR_ := Lib.hid (HVR.out.grow hb_)
                  clear HVR
                  have HVR := HVR_
                  clear HVR_
                  have HPD_ := Lib.hid (HPD.out.grow hb_)
                  clear HPD
                  have HPD := HPD_
                  clear HPD_
                  clear hb_ hd_
                  show wpL _ _ _ _ _ _ _ [0,1,2,3,4,5,6,7,8,9,10,11,12,13,14,15,16] _ _
                  repeat (first | (refine fl_calm rfl (by decide) (by first | exact wanted_none rfl | (go_simp; done) | fail) (fun w_ _ _ => by first | (go_simp; rfl) | (go_simp; done) | rfl) (fun K hK => ?_); go_simp; refine hK _ ?_; clear hK K) | (refine fl_skip rfl (by first | (go_simp; done) | fail) (fun K hK => ?_); go_simp; refine hK _ ?_; clear hK K) | (refine fl_loadb rfl (by decide) (by first | exact wanted_none rfl | (go_simp; done) | fail) rfl row_id HVR.out.blk (by first | rfl | (go_simp; done) | rfl) HVR.out.len (fun K hK => ?_); go_simp; refine hK _ ?_; clear hK K))
                  refine fl_callv rfl (by kernel_rfl) rfl (by first | exact wanted_none rfl | (go_simp; done) | fail) (fun w_ => by first | (go_simp; exact ⟨rfl, rfl⟩) | (go_simp; rfl) | (go_simp; exact ⟨⟨rfl, rfl, rfl⟩, rfl⟩)) (fun w2_ hg_ hL_ => ?_) (fun K hK => ?_)
                  · skip
                    replace HXP := Lib.hid (HXP.out.grow hg_)
                    replace HT := Lib.hid (HT.out.grow hg_)
                    exact root_any 1 1 c10 _ (ps.set k (Value.slice Ab nb cb, b)) zs _ (Nat.le_refl _) HZ.out HXP.out hn10 (by omega) HLX.out HT.out
                  go_simp
                  refine hK _ ?_
                  clear hK K
                  repeat (first | (refine fl_calm rfl (by decide) (by first | exact wanted_none rfl | (go_simp; done) | fail) (fun w_ _ _ => by first | (go_simp; rfl) | (go_simp; done) | rfl) (fun K hK => ?_); go_simp; refine hK _ ?_; clear hK K) | (refine fl_skip rfl (by first | (go_simp; done) | fail) (fun K hK => ?_); go_simp; refine hK _ ?_; clear hK K) | (refine fl_loadb rfl (by decide) (by first | exact wanted_none rfl | (go_simp; done) | fail) rfl row_id HVR.out.blk (by first | rfl | (go_simp; done) | rfl) HVR.out.len (fun K hK => ?_); go_simp; refine hK _ ?_; clear hK K))
                  refine fl_callv rfl (by kernel_rfl) rfl (by first | exact wanted_none rfl | (go_simp; done) | fail) (fun w_ => by first | (go_simp; exact ⟨rfl, rfl⟩) | (go_simp; rfl) | (go_simp; exact ⟨⟨rfl, rfl, rfl⟩, rfl⟩)) (fun w2_ hg_ hL_ => ?_) (fun K hK => ?_)
                  · skip
                    replace HPD := Lib.hid (HPD.out.grow hg_)
                    replace HT := Lib.hid (HT.out.grow hg_)
                    exact root_any 0 0 0 _ (ps.drop 1) ws _ (Nat.le_refl _) HW.out HPD.out (by omega) (by omega) HLD.out HT.out
                  go_simp
                  refine hK _ ?_
                  clear hK K
                  repeat (first | (refine fl_calm rfl (by decide) (by first | exact wanted_none rfl | (go_simp; done) | fail) (fun w_ _ _ => by first | (go_simp; rfl) | (go_simp; done) | rfl) (fun K hK => ?_); go_simp; refine hK _ ?_; clear hK K) | (refine fl_skip rfl (by first | (go_simp; done) | fail) (fun K hK => ?_); go_simp; refine hK _ ?_; clear hK K) | (refine fl_loadb rfl (by decide) (by first | exact wanted_none rfl | (go_simp; done) | fail) rfl row_id HVR.out.blk (by first | rfl | (go_simp; done) | rfl) HVR.out.len (fun K hK => ?_); go_simp; refine hK _ ?_; clear hK K))
                  refine fl_callv rfl (by kernel_rfl) rfl (by first | exact wanted_none rfl | (go_simp; done) | fail) (fun w_ => by first | (go_simp; exact ⟨rfl, rfl⟩) | (go_simp; rfl) | (go_simp; exact ⟨⟨rfl, rfl, rfl⟩, rfl⟩)) (fun w2_ hg_ hL_ => ?_) (fun K hK => ?_)
                  · skip
                    replace HT := Lib.hid (HT.out.grow hg_)
                    exact awake5_any _ HT.out
                  go_simp
                  refine hK _ ?_
                  clear hK K
                  repeat (first | (refine fl_calm rfl (by decide) (by first | exact wanted_none rfl | (go_simp; done) | fail) (fun w_ _ _ => by first | (go_simp; rfl) | (go_simp; done) | rfl) (fun K hK => ?_); go_simp; refine hK _ ?_; clear hK K) | (refine fl_skip rfl (by first | (go_simp; done) | fail) (fun K hK => ?_); go_simp; refine hK _ ?_; clear hK K))
                  refine fl_done ?_
                  intro w2_ hg_ hL_
                  replace HB := Lib.hid (HB.out.grow' hg_)
                  clear hg_ hL_
                  try clear w_
                  rename World => w_
                  go_wp2_with fail
                  go_ret
                  exact ⟨rfl, HB.out⟩
          · have HPD_ := Lib.hid (show Parts w_ w_.heap.size (Option.map (fun x => x.add 1) A) (n - 1) (ps.drop 1) by have h := HPD.out; rw [if_neg hce] at h; exact h)
            have hceq := eq_false hce
            have hcq : (c == 1) = false := by simpa using hce
            clear HPD
            have HPD := HPD_
            clear HPD_
            cases sm with
            | true =>
              have HZX := Lib.hid (show d2 = true by
                have hb : b = bk := by simpa using HSM.out
                have e : (ps.set k (Value.slice Ab nb cb, b)).map Prod.snd = ps.map Prod.snd := by
                  rw [map_set_snd, hb]
                  apply List.ext_getElem?
                  intro i
                  rw [List.getElem?_set]
                  split
                  · rename_i hki
                    subst hki
                    split
                    · rw [List.getElem?_map, HPK.out]; rfl
                    · rename_i hlt; rw [List.length_map] at hlt; rw [List.getElem?_eq_none (by rw [List.length_map]; omega)]
                  · rfl
                rw [← HD2.out, e]; simp)
              have hd2 := HZX.out
              subst hd2
              go_wp2_with fail
              refine (rroot_any n n c10 _ (ps.set k (Value.slice Ab nb cb, b)) zs _ (Nat.le_refl _) HZ.out HXP.out hn10 (by omega) HLX.out HT.out).mono ?_
              rintro e w_ ⟨rfl, hb_⟩
              have HB_ := Lib.hid (HB.out.grow' hb_)
              clear HB
              have HB := HB_
              clear HB_
              have HP_ := Lib.hid (HP.out.grow hb_)
              clear HP
              have HP := HP_
              clear HP_
              have HT_ := Lib.hid (HT.out.grow hb_)
              clear HT
              have HT := HT_
              clear HT_
              have HVR_ := Lib.hid (HVR.out.grow hb_)
              clear HVR
              have HVR := HVR_
              clear HVR_
              have HXP_ := Lib.hid (HXP.out.grow hb_)
              clear HXP
              have HXP := HXP_
              clear HXP_
              have HPD_ := Lib.hid (HPD.out.grow hb_)
              clear HPD
              have HPD := HPD_
              clear HPD_
              clear hb_
              go_wp2_with fail
              refine (rroot_any n n c _ ps xs _ (Nat.le_refl _) HX.out HP.out hc (by omega) HL.out HT.out).mono ?_
              rintro e w_ ⟨rfl, hb_⟩
              have HB_ := Lib.hid (HB.out.grow' hb_)
              clear HB
              have HB := HB_
              clear HB_
              have HP_ := Lib.hid (HP.out.grow hb_)
              clear HP
              have HP := HP_
              clear HP_
              have HT_ := Lib.hid (HT.out.grow hb_)
              clear HT
              have HT := HT_
              clear HT_
              have HVR_ := Lib.hid (HVR.out.grow hb_)
              clear HVR
              have HVR := HVR_
              clear HVR_
              have HXP_ := Lib.hid (HXP.out.grow hb_)
              clear HXP
              have HXP := HXP_
              clear HXP_
              have HPD_ := Lib.hid (HPD.out.grow hb_)
              clear HPD
              have HPD := HPD_
              clear HPD_
              clear hb_
              go_wp2_with fail
              refine (rroot_any (n - 1) (n - 1) (c - 1) _ (ps.drop 1) ws _ (Nat.le_refl _) HW.out HPD.out (by omega) (by omega) HLD.out HT.out).mono ?_
              rintro e w_ ⟨rfl, hb_⟩
              have HB_ := Lib.hid (HB.out.grow' hb_)
              clear HB
              have HB := HB_
              clear HB_
              have HP_ := Lib.hid (HP.out.grow hb_)
              clear HP
              have HP := HP_
              clear HP_
              have HT_ := Lib.hid (HT.out.grow hb_)
              clear HT
              have HT := HT_
              clear HT_
              have HVR_ := Lib.hid (HVR.out.grow hb_)
              clear HVR
              have HVR := HVR_
              clear HVR_
              have HXP_ := Lib.hid (HXP.out.grow hb_)
              clear HXP
              have HXP := HXP_
              clear HXP_
              have HPD_ := Lib.hid (HPD.out.grow hb_)
              clear HPD
              have HPD := HPD_
              clear HPD_
              clear hb_
              go_wp2_with fail
              refine (rroot_any n n c _ ps xs _ (Nat.le_refl _) HX.out HP.out hc (by omega) HL.out HT.out).mono ?_
              rintro e w_ ⟨rfl, hb_⟩
              have HB_ := Lib.hid (HB.out.grow' hb_)
              clear HB
              have HB := HB_
              clear HB_
              have HP_ := Lib.hid (HP.out.grow hb_)
              clear HP
              have HP := HP_
              clear HP_
              have HT_ := Lib.hid (HT.out.grow hb_)
              clear HT
              have HT := HT_
              clear HT_
              have HVR_ := Lib.hid (HVR.out.grow hb_)
              clear HVR
              have HVR := HVR_
              clear HVR_
              have HXP_ := Lib.hid (HXP.out.grow hb_)
              clear HXP
              have HXP := HXP_
              clear HXP_
              have HPD_ := Lib.hid (HPD.out.grow hb_)
              clear HPD
              have HPD := HPD_
              clear HPD_
              clear hb_
              cases d3 with
              | true =>
                go_wp2_with fail
                refine (awake5_any _ HT.out).mono ?_
                rintro e w_ ⟨rfl, hb_⟩
                have HB_ := Lib.hid (HB.out.grow' hb_)
                clear HB
                have HB := HB_
                clear HB_
                clear hb_
                go_wp2_with fail
                go_ret
                exact ⟨rfl, HB.out⟩
              | false =>
                go_wp2_with fail
                try go_wp2_with fail
                repeat' (first | (with_reducible refine wp_flow (id := 17) [0,1,0,7,0,31,63,127,255,511,127,2047,4095,8191,16383,32767,65535] [0,3,0,0,0,0,0,0,0,3,0,0,0,0,3,0,0] (fun i => match i with | 1 => spV (.agg zs.toArray) | 9 => spV (.agg ws.toArray) | 14 => spV (.bool true) | _ => spV undef) (by kernel_rfl) (by kernel_rfl) ?_) | go_values | go_skip | go_guarded | go_step | go_upon | go_back)
                intro w_ hd_
                have hb_ := hd_.grow
                have HB_ := Lib.hid (HB.out.grow' hb_)
                clear HB
                have HB := HB_
                clear HB_
                have HT_ := Lib.hid (HT.out.grow hb_)
                clear HT
                have HT := HT_
                clear HT_
                have HP_ := Lib.hid (HP.out.grow hb_)
                clear HP
                have HP := HP_
                clear HP_
                have HXP_ := Lib.hid (HXP.out.grow hb_)
                clear HXP
                have HXP := HXP_
                clear HXP_
                have HVR_ := Lib.hid (HVR.out.grow hb_)
                clear HVR
                have HVR := HVR_
                clear HVR_
                have HPD_ := Lib.hid (HPD.out.grow hb_)
                clear HPD
                have HPD := HPD_
                clear HPD_
                clear hb_ hd_
                show wpL _ _ _ _ _ _ _ [0,1,2,3,4,5,6,7,8,9,10,11,12,13,14,15,16] _ _
                repeat (first | (refine fl_calm rfl (by decide) (by first | exact wanted_none rfl | (go_simp; done) | fail) (fun w_ _ _ => by first | (go_simp; rfl) | (go_simp; done) | rfl) (fun K hK => ?_); go_simp; refine hK _ ?_; clear hK K) | (refine fl_skip rfl (by first | (go_simp; done) | fail) (fun K hK => ?_); go_simp; refine hK _ ?_; clear hK K) | (refine fl_loadb rfl (by decide) (by first | exact wanted_none rfl | (go_simp; done) | fail) rfl row_id HVR.out.blk (by first | rfl | (go_simp; done) | rfl) HVR.out.len (fun K hK => ?_); go_simp; refine hK _ ?_; clear hK K))
                refine fl_callv rfl (by kernel_rfl) rfl (by first | exact wanted_none rfl | (go_simp; done) | fail) (fun w_ => by first | (go_simp; exact ⟨rfl, rfl⟩) | (go_simp; rfl) | (go_simp; exact ⟨⟨rfl, rfl, rfl⟩, rfl⟩)) (fun w2_ hg_ hL_ => ?_) (fun K hK => ?_)
                · skip
                  replace HXP := Lib.hid (HXP.out.grow hg_)
                  replace HT := Lib.hid (HT.out.grow hg_)
                  exact root_any n n c10 _ (ps.set k (Value.slice Ab nb cb, b)) zs _ (Nat.le_refl _) HZ.out HXP.out hn10 (by omega) HLX.out HT.out
                go_simp
                refine hK _ ?_
                clear hK K
                repeat (first | (refine fl_calm rfl (by decide) (by first | exact wanted_none rfl | (go_simp; done) | fail) (fun w_ _ _ => by first | (go_simp; rfl) | (go_simp; done) | rfl) (fun K hK => ?_); go_simp; refine hK _ ?_; clear hK K) | (refine fl_skip rfl (by first | (go_simp; done) | fail) (fun K hK => ?_); go_simp; refine hK _ ?_; clear hK K) | (refine fl_loadb rfl (by decide) (by first | exact wanted_none rfl | (go_simp; done) | fail) rfl row_id HVR.out.blk (by first | rfl | (go_simp; done) | rfl) HVR.out.len (fun K hK => ?_); go_simp; refine hK _ ?_; clear hK K))
                refine fl_calm rfl (by decide) (v := .slice (Option.map (fun x => x.add 1) A) (n - 1) (c - 1)) (by first | exact wanted_none rfl | (go_simp; done) | fail) (fun w_ _ _ => ?_) (fun K hK => ?_)
                · go_simp
                go_simp
                refine hK _ ?_
                clear hK K
                repeat (first | (refine fl_calm rfl (by decide) (by first | exact wanted_none rfl | (go_simp; done) | fail) (fun w_ _ _ => by first | (go_simp; rfl) | (go_simp; done) | rfl) (fun K hK => ?_); go_simp; refine hK _ ?_; clear hK K) | (refine fl_skip rfl (by first | (go_simp; done) | fail) (fun K hK => ?_); go_simp; refine hK _ ?_; clear hK K) | (refine fl_loadb rfl (by decide) (by first | exact wanted_none rfl | (go_simp; done) | fail) rfl row_id HVR.out.blk (by first | rfl | (go_simp; done) | rfl) HVR.out.len (fun K hK => ?_); go_simp; refine hK _ ?_; clear hK K))
                refine fl_callv rfl (by kernel_rfl) rfl (by first | exact wanted_none rfl | (go_simp; done) | fail) (fun w_ => by first | (go_simp; exact ⟨rfl, rfl⟩) | (go_simp; rfl) | (go_simp; exact ⟨⟨rfl, rfl, rfl⟩, rfl⟩)) (fun w2_ hg_ hL_ => ?_) (fun K hK => ?_)
                · skip
                  replace HPD := Lib.hid (HPD.out.grow hg_)
                  replace HT := Lib.hid (HT.out.grow hg_)
                  exact root_any (n - 1) (n - 1) (c - 1) _ (ps.drop 1) ws _ (Nat.le_refl _) HW.out HPD.out (by omega) (by omega) HLD.out HT.out
                go_simp
                refine hK _ ?_
                clear hK K
                repeat (first | (refine fl_calm rfl (by decide) (by first | exact wanted_none rfl | (go_simp; done) | fail) (fun w_ _ _ => by first | (go_simp; rfl) | (go_simp; done) | rfl) (fun K hK => ?_); go_simp; refine hK _ ?_; clear hK K) | (refine fl_skip rfl (by first | (go_simp; done) | fail) (fun K hK => ?_); go_simp; refine hK _ ?_; clear hK K) | (refine fl_loadb rfl (by decide) (by first | exact wanted_none rfl | (go_simp; done) | fail) rfl row_id HVR.out.blk (by first | rfl | (go_simp; done) | rfl) HVR.out.len (fun K hK => ?_); go_simp; refine hK _ ?_; clear hK K))
                refine fl_callv rfl (by kernel_rfl) rfl (by first | exact wanted_none rfl | (go_simp; done) | fail) (fun w_ => by first | (go_simp; exact ⟨rfl, rfl⟩) | (go_simp; rfl) | (go_simp; exact ⟨⟨rfl, rfl, rfl⟩, rfl⟩)) (fun w2_ hg_ hL_ => ?_) (fun K hK => ?_)
                · skip
                  replace HT := Lib.hid (HT.out.grow hg_)
                  exact awake5_any _ HT.out
                go_simp
                refine hK _ ?_
                clear hK K
                repeat (first | (refine fl_calm rfl (by decide) (by first | exact wanted_none rfl | (go_simp; done) | fail) (fun w_ _ _ => by first | (go_simp; rfl) | (go_simp; done) | rfl) (fun K hK => ?_); go_simp; refine hK _ ?_; clear hK K) | (refine fl_skip rfl (by first | (go_simp; done) | fail) (fun K hK => ?_); go_simp; refine hK _ ?_; clear hK K))
                refine fl_done ?_
                intro w2_ hg_ hL_
                replace HB := Lib.hid (HB.out.grow' hg_)
                clear hg_ hL_
                try clear w_
                rename World => w_
                go_wp2_with fail
                go_ret
                exact ⟨rfl, HB.out⟩
            | false =>
              go_wp2_with fail
              refine (rroot_any n n c10 _ (ps.set k (Value.slice Ab nb cb, b)) zs _ (Nat.le_refl _) HZ.out HXP.out hn10 (by omega) HLX.out HT.out).mono ?_
              rintro e w_ ⟨rfl, hb_⟩
              have HB_ := Lib.hid (HB.out.grow' hb_)
              clear HB
              have HB := HB_
              clear HB_
              have HP_ := Lib.hid (HP.out.grow hb_)
              clear HP
              have HP := HP_
              clear HP_
              have HT_ := Lib.hid (HT.out.grow hb_)
              clear HT
              have HT := HT_
              clear HT_
              have HVR_ := Lib.hid (HVR.out.grow hb_)
              clear HVR
              have HVR := HVR_
              clear HVR_
              have HXP_ := Lib.hid (HXP.out.grow hb_)
              clear HXP
              have HXP := HXP_
              clear HXP_
              have HPD_ := Lib.hid (HPD.out.grow hb_)
              clear HPD
              have HPD := HPD_
              clear HPD_
              clear hb_
              go_wp2_with fail
              refine (rroot_any n n c _ ps xs _ (Nat.le_refl _) HX.out HP.out hc (by omega) HL.out HT.out).mono ?_
              rintro e w_ ⟨rfl, hb_⟩
              have HB_ := Lib.hid (HB.out.grow' hb_)
              clear HB
              have HB := HB_
              clear HB_
              have HP_ := Lib.hid (HP.out.grow hb_)
              clear HP
              have HP := HP_
              clear HP_
              have HT_ := Lib.hid (HT.out.grow hb_)
              clear HT
              have HT := HT_
              clear HT_
              have HVR_ := Lib.hid (HVR.out.grow hb_)
              clear HVR
              have HVR := HVR_
              clear HVR_
              have HXP_ := Lib.hid (HXP.out.grow hb_)
              clear HXP
              have HXP := HXP_
              clear HXP_
              have HPD_ := Lib.hid (HPD.out.grow hb_)
              clear HPD
              have HPD := HPD_
              clear HPD_
              clear hb_
              cases d2 with
              | true =>
                go_wp2_with fail
                refine (awake5_any _ HT.out).mono ?_
                rintro e w_ ⟨rfl, hb_⟩
                have HB_ := Lib.hid (HB.out.grow' hb_)
                clear HB
                have HB := HB_
                clear HB_
                clear hb_
                go_wp2_with fail
                go_ret
                exact ⟨rfl, HB.out⟩
              | false =>
                go_wp2_with fail
                refine (rroot_any (n - 1) (n - 1) (c - 1) _ (ps.drop 1) ws _ (Nat.le_refl _) HW.out HPD.out (by omega) (by omega) HLD.out HT.out).mono ?_
                rintro e w_ ⟨rfl, hb_⟩
                have HB_ := Lib.hid (HB.out.grow' hb_)
                clear HB
                have HB := HB_
                clear HB_
                have HP_ := Lib.hid (HP.out.grow hb_)
                clear HP
                have HP := HP_
                clear HP_
                have HT_ := Lib.hid (HT.out.grow hb_)
                clear HT
                have HT := HT_
                clear HT_
                have HVR_ := Lib.hid (HVR.out.grow hb_)
                clear HVR
                have HVR := HVR_
                clear HVR_
                have HXP_ := Lib.hid (HXP.out.grow hb_)
                clear HXP
                have HXP := HXP_
                clear HXP_
                have HPD_ := Lib.hid (HPD.out.grow hb_)
                clear HPD
                have HPD := HPD_
                clear HPD_
                clear hb_
                go_wp2_with fail
                refine (rroot_any n n c _ ps xs _ (Nat.le_refl _) HX.out HP.out hc (by omega) HL.out HT.out).mono ?_
                rintro e w_ ⟨rfl, hb_⟩
                have HB_ := Lib.hid (HB.out.grow' hb_)
                clear HB
                have HB := HB_
                clear HB_
                have HP_ := Lib.hid (HP.out.grow hb_)
                clear HP
                have HP := HP_
                clear HP_
                have HT_ := Lib.hid (HT.out.grow hb_)
                clear HT
                have HT := HT_
                clear HT_
                have HVR_ := Lib.hid (HVR.out.grow hb_)
                clear HVR
                have HVR := HVR_
                clear HVR_
                have HXP_ := Lib.hid (HXP.out.grow hb_)
                clear HXP
                have HXP := HXP_
                clear HXP_
                have HPD_ := Lib.hid (HPD.out.grow hb_)
                clear HPD
                have HPD := HPD_
                clear HPD_
                clear hb_
                cases d3 with
                | true =>
                  go_wp2_with fail
                  refine (awake5_any _ HT.out).mono ?_
                  rintro e w_ ⟨rfl, hb_⟩
                  have HB_ := Lib.hid (HB.out.grow' hb_)
                  clear HB
                  have HB := HB_
                  clear HB_
                  clear hb_
                  go_wp2_with fail
                  go_ret
                  exact ⟨rfl, HB.out⟩
                | false =>
                  go_wp2_with fail
                  try go_wp2_with fail
                  repeat' (first | (with_reducible refine wp_flow (id := 17) [0,1,0,7,0,31,63,127,255,511,127,2047,4095,8191,16383,32767,65535] [0,3,0,0,0,0,0,0,0,3,0,0,0,0,3,0,0] (fun i => match i with | 1 => spV (.agg zs.toArray) | 9 => spV (.agg ws.toArray) | 14 => spV (.bool true) | _ => spV undef) (by kernel_rfl) (by kernel_rfl) ?_) | go_values | go_skip | go_guarded | go_step | go_upon | go_back)
                  intro w_ hd_
                  have hb_ := hd_.grow
                  have HB_ := Lib.hid (HB.out.grow' hb_)
                  clear HB
                  have HB := HB_
                  clear HB_
                  have HT_ := Lib.hid (HT.out.grow hb_)
                  clear HT
                  have HT := HT_
                  clear HT_
                  have HP_ := Lib.hid (HP.out.grow hb_)
                  clear HP
                  have HP := HP_
                  clear HP_
                  have HXP_ := Lib.hid (HXP.out.grow hb_)
                  clear HXP
                  have HXP := HXP_
                  clear HXP_
                  have HVR_ := Lib.hid (HVR.out.grow hb_)
                  clear HVR
                  have HVR := HVR_
                  clear HVR_
                  have HPD_ := Lib.hid (HPD.out.grow hb_)
                  clear HPD
                  have HPD := HPD_
                  clear HPD_
                  clear hb_ hd_
                  show wpL _ _ _ _ _ _ _ [0,1,2,3,4,5,6,7,8,9,10,11,12,13,14,15,16] _ _
                  repeat (first | (refine fl_calm rfl (by decide) (by first | exact wanted_none rfl | (go_simp; done) | fail) (fun w_ _ _ => by first | (go_simp; rfl) | (go_simp; done) | rfl) (fun K hK => ?_); go_simp; refine hK _ ?_; clear hK K) | (refine fl_skip rfl (by first | (go_simp; done) | fail) (fun K hK => ?_); go_simp; refine hK _ ?_; clear hK K) | (refine fl_loadb rfl (by decide) (by first | exact wanted_none rfl | (go_simp; done) | fail) rfl row_id HVR.out.blk (by first | rfl | (go_simp; done) | rfl) HVR.out.len (fun K hK => ?_); go_simp; refine hK _ ?_; clear hK K))
                  refine fl_callv rfl (by kernel_rfl) rfl (by first | exact wanted_none rfl | (go_simp; done) | fail) (fun w_ => by first | (go_simp; exact ⟨rfl, rfl⟩) | (go_simp; rfl) | (go_simp; exact ⟨⟨rfl, rfl, rfl⟩, rfl⟩)) (fun w2_ hg_ hL_ => ?_) (fun K hK => ?_)
                  · skip
                    replace HXP := Lib.hid (HXP.out.grow hg_)
                    replace HT := Lib.hid (HT.out.grow hg_)
                    exact root_any n n c10 _ (ps.set k (Value.slice Ab nb cb, b)) zs _ (Nat.le_refl _) HZ.out HXP.out hn10 (by omega) HLX.out HT.out
                  go_simp
                  refine hK _ ?_
                  clear hK K
                  repeat (first | (refine fl_calm rfl (by decide) (by first | exact wanted_none rfl | (go_simp; done) | fail) (fun w_ _ _ => by first | (go_simp; rfl) | (go_simp; done) | rfl) (fun K hK => ?_); go_simp; refine hK _ ?_; clear hK K) | (refine fl_skip rfl (by first | (go_simp; done) | fail) (fun K hK => ?_); go_simp; refine hK _ ?_; clear hK K) | (refine fl_loadb rfl (by decide) (by first | exact wanted_none rfl | (go_simp; done) | fail) rfl row_id HVR.out.blk (by first | rfl | (go_simp; done) | rfl) HVR.out.len (fun K hK => ?_); go_simp; refine hK _ ?_; clear hK K))
                  refine fl_calm rfl (by decide) (v := .slice (Option.map (fun x => x.add 1) A) (n - 1) (c - 1)) (by first | exact wanted_none rfl | (go_simp; done) | fail) (fun w_ _ _ => ?_) (fun K hK => ?_)
                  · go_simp
                  go_simp
                  refine hK _ ?_
                  clear hK K
                  repeat (first | (refine fl_calm rfl (by decide) (by first | exact wanted_none rfl | (go_simp; done) | fail) (fun w_ _ _ => by first | (go_simp; rfl) | (go_simp; done) | rfl) (fun K hK => ?_); go_simp; refine hK _ ?_; clear hK K) | (refine fl_skip rfl (by first | (go_simp; done) | fail) (fun K hK => ?_); go_simp; refine hK _ ?_; clear hK K) | (refine fl_loadb rfl (by decide) (by first | exact wanted_none rfl | (go_simp; done) | fail) rfl row_id HVR.out.blk (by first | rfl | (go_simp; done) | rfl) HVR.out.len (fun K hK => ?_); go_simp; refine hK _ ?_; clear hK K))
                  refine fl_callv rfl (by kernel_rfl) rfl (by first | exact wanted_none rfl | (go_simp; done) | fail) (fun w_ => by first | (go_simp; exact ⟨rfl, rfl⟩) | (go_simp; rfl) | (go_simp; exact ⟨⟨rfl, rfl, rfl⟩, rfl⟩)) (fun w2_ hg_ hL_ => ?_) (fun K hK => ?_)
                  · skip
                    replace HPD := Lib.hid (HPD.out.grow hg_)
                    replace HT := Lib.hid (HT.out.grow hg_)
                    exact root_any (n - 1) (n - 1) (c - 1) _ (ps.drop 1) ws _ (Nat.le_refl _) HW.out HPD.out (by omega) (by omega) HLD.out HT.out
                  go_simp
                  refine hK _ ?_
                  clear hK K
                  repeat (first | (refine fl_calm rfl (by decide) (by first | exact wanted_none rfl | (go_simp; done) | fail) (fun w_ _ _ => by first | (go_simp; rfl) | (go_simp; done) | rfl) (fun K hK => ?_); go_simp; refine hK _ ?_; clear hK K) | (refine fl_skip rfl (by first | (go_simp; done) | fail) (fun K hK => ?_); go_simp; refine hK _ ?_; clear hK K) | (refine fl_loadb rfl (by decide) (by first | exact wanted_none rfl | (go_simp; done) | fail) rfl row_id HVR.out.blk (by first | rfl | (go_simp; done) | rfl) HVR.out.len (fun K hK => ?_); go_simp; refine hK _ ?_; clear hK K))
                  refine fl_callv rfl (by kernel_rfl) rfl (by first | exact wanted_none rfl | (go_simp; done) | fail) (fun w_ => by first | (go_simp; exact ⟨rfl, rfl⟩) | (go_simp; rfl) | (go_simp; exact ⟨⟨rfl, rfl, rfl⟩, rfl⟩)) (fun w2_ hg_ hL_ => ?_) (fun K hK => ?_)
                  · skip
                    replace HT := Lib.hid (HT.out.grow hg_)
                    exact awake5_any _ HT.out
                  go_simp
                  refine hK _ ?_
                  clear hK K
                  repeat (first | (refine fl_calm rfl (by decide) (by first | exact wanted_none rfl | (go_simp; done) | fail) (fun w_ _ _ => by first | (go_simp; rfl) | (go_simp; done) | rfl) (fun K hK => ?_); go_simp; refine hK _ ?_; clear hK K) | (refine fl_skip rfl (by first | (go_simp; done) | fail) (fun K hK => ?_); go_simp; refine hK _ ?_; clear hK K))
                  refine fl_done ?_
                  intro w2_ hg_ hL_
                  replace HB := Lib.hid (HB.out.grow' hg_)
                  clear hg_ hL_
                  try clear w_
                  rename World => w_
                  go_wp2_with fail
                  go_ret
                  exact ⟨rfl, HB.out⟩
        · have g2 : decide ((n : Int) < 1) = true := by simp; omega
          go_wp2_with fail
          refine (awake5_any _ HT.out).mono ?_
          rintro e w_ ⟨rfl, hb_⟩
          have HB_ := Lib.hid (HB.out.grow' hb_)
          clear HB
          have HB := HB_
          clear HB_
          clear hb_
          go_wp2_with fail
          go_ret
          exact ⟨rfl, HB.out⟩
  · have g1 : decide (60 < (nb : Int)) = true := by simp; omega
    go_enter Tryd.func16, Tryd.ntmps16
    go_wp2_with fail
    refine (great_any _ _ _ ps _ HP.out).mono ?_
    rintro e w_ ⟨gr, rfl, hg, hb_⟩
    clear hg
    have HB_ := Lib.hid (HB.out.grow' hb_)
    have HT_ := Lib.hid (HT.out.grow hb_)
    clear HB HT
    have HB := HB_
    have HT := HT_
    clear HB_ HT_
    clear hb_
    cases gr with
    | true =>
      go_wp2_with fail
      refine (awake5_any _ HT.out).mono ?_
      rintro e w_ ⟨rfl, hb_⟩
      have HB_ := Lib.hid (HB.out.grow' hb_)
      clear HB
      have HB := HB_
      clear HB_
      clear hb_
      go_wp2_with fail
      go_ret
      exact ⟨rfl, HB.out⟩
    | false =>
      go_wp2_with fail
      refine (awake5_any _ HT.out).mono ?_
      rintro e w_ ⟨rfl, hb_⟩
      have HB_ := Lib.hid (HB.out.grow' hb_)
      clear HB
      have HB := HB_
      clear HB_
      clear hb_
      go_wp2_with fail
      go_ret
      exact ⟨rfl, HB.out⟩
theorem treeRoots_walk (A : Option Addr) (n c : Nat) (ps : List (Value × List UInt8)) (Ab : Option Addr) (nb cb : Nat) (b : List UInt8) (z : Int) (w : World) (hp : Parts w w.heap.size A n ps) (hc : n ≤ c) (hm : c ≤ maxLen) (hs : Sl w w.heap.size 1 Ab nb (b.map B)) (hcb : nb ≤ cb) (hmb : cb ≤ maxLen) (hz : (Lit.int .i64 z).wf = true) (ht : Tabs w) :
    Calls Tryd.prog 16 #[.slice A n c, .slice Ab nb cb, .int .i64 z] w fun e w' => e = .returned (.bool true) ∧ Below w.heap.size w w' :=
  treeRoots_any A Ab n c nb cb ps b z w hp hc hs hcb (bounds_i64 hz).1 (bounds_i64 hz).2 ht
end Go.Proofs.YtlondennhhffdaaDoor

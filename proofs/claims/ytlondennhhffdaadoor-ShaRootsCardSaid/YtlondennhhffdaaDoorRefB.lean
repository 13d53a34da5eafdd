/- Contract of seisinref03.Sum. -/
import Derived.Test.YtlondennhhffdaaDoorRefQ
import Derived.Test.YtlondennhhffdaaDoorRefQ2
import Derived.Test.YtlondennhhffdaaDoorRefQ6
import Derived.Test.YtlondennhhffdaaDoorRefR
namespace Go.Proofs.YtlondennhhffdaaDoor
open Go.RowKit Go.Shelf
set_option linter.unusedVariables false

attribute [local go_sem ↓ high] add_w
attribute [local go_sem high] xor_w and_w or_w not_w shr_w shl_w wrap_b8
attribute [local go_sem ↓ high] not_sub

set_option maxRecDepth 100000 in
set_option maxHeartbeats 4000000 in
theorem rsum_any (A Ah Ak : Option Addr) (n c ch ck : Nat) (bs : List UInt8) (w : World) (hb : Sl w w.heap.size 1 A n (bs.map B)) (hh : Sl w w.heap.size 1 Ah 8 (firstSt.toList.map W)) (hk : Sl w w.heap.size 1 Ak 64 (roundKs.map W)) (hl : n ≤ 1099511627776) :
    Calls Tryd.prog 23 #[.slice A n c, .slice Ah 8 ch, .slice Ak 64 ck] w fun e w' => e = .returned (.agg ((sha bs).map B).toArray) ∧ Below w.heap.size w w' := by
  have HB := Lib.hid hb; have HH := Lib.hid hh; have HK := Lib.hid hk
  have hL : bs.length = n := by have := hb.1; simpa using this
  have HL := Lib.hid hL
  obtain ⟨bk, ok, rfl, hbk, -⟩ := hk.2 (by omega)
  clear hb hh hk hL hbk
  go_enter Tryd.func23, Tryd.ntmps23
  go_wp2_with (first | (with_reducible refine wpl_alloc (o := ⟨some 6, _, _, _, _, _⟩) rfl rfl zero_id ?_))
  intro w1 hb1 hbw1 hsz1
  have HB1 := Lib.hid hb1; clear hb1
  have HBW1 := Lib.hid hbw1; clear hbw1
  have HS1 := Lib.hid (HB.out.below HBW1.out)
  clear HB
  generalize hgd : w.heap.size = g at *
  have HG := Lib.hid hgd; clear hgd
  have HBY := Lib.hid (all_bytes bs)
  have hown0 : (w1.alloc (.cells #[] 5)).ownsRow (g + 1) 5 1 (.slice (some ⟨w1.heap.size, 0, none⟩) 0 0) 0 [] := World.ownsRow_lit w1 #[] 0 (by rw [hsz1]; exact Nat.le_refl _) (by simp [maxLen]) rfl
  have HO0 := Lib.hid hown0; clear hown0
  have HA0 := Lib.hid (HS1.out.alloc (by rw [hsz1]; omega) (.cells #[] 5))
  have HSZ1 := Lib.hid hsz1; clear hsz1
  have HZZ := Lib.hid (show g + 1 ≤ (w1.alloc (.cells #[] 5)).heap.size by simp; have := HSZ1.out; omega)
  have HBA := Lib.hid (HBW1.out.alloc (by have := HSZ1.out; omega) (.cells #[] 5))
  have HBB := Lib.hid (HB1.out.alloc (.cells #[] 5))
  go_wp2_with (at_builtin; refine wpl_apps rfl rfl el_u8 HO0.out rfl HA0.out rfl HBY.out ?_ ?_ HZZ.out ?_)
  · omega
  · omega
  · intro A2 c2 w2 ho hg _
    have HO2 := Lib.hid ho
    have HB2 := Lib.hid (HBB.out.grown hg (by simp; have := HSZ1.out; omega))
    have HBW2 := Lib.hid (HBA.out.grown hg (by have := HZZ.out; omega) (by intro k hk; cases hk; have := HSZ1.out; omega))
    have HSZ2 := Lib.hid (Nat.le_trans HZZ.out hg.size)
    clear ho hg HO0 HA0 HZZ HBA HBB HB1 HBW1 HSZ1 HS1
    try rw [Nat.zero_add] at HO2
    try rw [Nat.zero_add]
    try rw [List.nil_append] at HO2
    go_wp2_with (at_builtin; refine wpl_app1 rfl rfl el_u8 HO2.out rfl (m := 1) rfl rfl ?_ ?_ ?_ HSZ2.out ?_)
    · simp [Value.oneCell']
    · omega
    · omega
    · intro A3 c3 w3 ho hg _
      have hb3 := below_grown HBW2.out hg (by have := HSZ2.out; omega) (fun j hj => by have := own_from HO2.out j hj; omega)
      have HO3 := Lib.hid ho
      have HB3 := Lib.hid (HB2.out.grown hg (fun e => by have := own_from HO2.out g e.symm; omega))
      have HBW3 := Lib.hid hb3
      have HSZ3 := Lib.hid (Nat.le_trans HSZ2.out hg.size)
      clear ho hb3 hg HO2 HB2 HBW2 HSZ2
      have hz1 : zerosFor n ≤ 63 := by unfold zerosFor; omega
      have HZ := Lib.hid (zeros_lt n)
      have HZE := Lib.hid (zeros_eq n)
      generalize hZF : zerosFor n = Z at *
      have HZF := Lib.hid hZF; clear hZF
      go_wp2_with fail
      refine rs_pad (Lib.hid (fun j hj => by have := HZ.out j hj; omega)) (Lib.hid (by have := HZE.out; omega)) hl hz1 (Lib.hid (by simpa [i128] using HO3.out)) HB3 HBW3 HSZ3 (Lib.hid ?_)
      intros
      rename_i A4 c4 wo hown_ hblk_ hbw_ hsz_
      have hown := Lib.hid hown_; have hblk := Lib.hid hblk_; have hbw := Lib.hid hbw_; have hsz := Lib.hid hsz_; clear hown_ hblk_ hbw_ hsz_
      go_wp2_with fail
      refine rs_bits hl hz1 hown hblk hbw hsz (Lib.hid ?_)
      clear hown hblk hbw hsz
      intros
      rename_i A5 c5 wr hown_ hblk_ hbw_ hsz_
      have hown := Lib.hid hown_; have hblk := Lib.hid hblk_; have hbw := Lib.hid hbw_; have hsz := Lib.hid hsz_; clear hown_ hblk_ hbw_ hsz_
      have hlen : n + 1 + Z + 8 = (padded bs).length := by rw [padded_length, HL.out, HZF.out]; omega
      have hpad : bs ++ [128] ++ List.replicate Z 0 ++ (beBytes (8 * n) 8).take 8 = padded bs := by
        rw [padded, HL.out, HZF.out, List.take_of_length_le (by rw [beBytes_length]; omega)]
      obtain ⟨nb, hnb⟩ : ∃ nb, (padded bs).length = 64 * nb := ⟨(padded bs).length / 64, by have := padded_mod bs; omega⟩
      have HNB := Lib.hid hnb
      rw [hnb] at hlen
      have hnb2 : nb ≤ 1000000000000 := by omega
      have HOM := hown.out
      rw [hpad] at HOM
      obtain ⟨gm, rfl, hgm1, hgm2, hcm⟩ := own_form HOM (by omega)
      rw [hlen] at HOM hcm ⊢
      have HM := Lib.hid HOM
      clear HOM hown hpad hnb hlen
      generalize hs1 : wr.heap.size = s1 at *
      have HS1 := Lib.hid hs1; clear hs1
      have HGM1 := Lib.hid hgm1
      have HGM2 := Lib.hid hgm2
      have HCM := Lib.hid hcm
      clear hgm1 hgm2 hcm
      obtain ⟨wo2, rfl⟩ : ∃ wo2 : World, wo2 = wr := ⟨_, rfl⟩
      have HWD := Lib.hid (all_words firstSt.toList)
      have hgs : g + 1 ≤ s1 := hsz.out
      have HO0 := Lib.hid (show (wo2.alloc (.cells #[] 70)).ownsRow s1 70 1 (.slice (some ⟨wo2.heap.size, 0, none⟩) 0 0) 0 [] by
        have := World.ownsRow_lit (base := s1) (e := 70) (size := 1) wo2 #[] 0 (by rw [HS1.out]; exact Nat.le_refl _) (by simp [maxLen]) rfl
        exact this)
      have hhh := HH.out.below hbw.out
      have HA0 := Lib.hid (hhh.alloc (by rw [HS1.out]; omega) (.cells #[] 70))
      clear hhh
      have HZZ := Lib.hid (show s1 ≤ (wo2.alloc (.cells #[] 70)).heap.size by simp; have := HS1.out; omega)
      have HMA := Lib.hid (own_alloc HM.out (.cells #[] 70))
      have HBA := Lib.hid (hbw.out.alloc (by rw [HS1.out]; omega) (.cells #[] 70))
      have HBB := Lib.hid (hblk.out.alloc (.cells #[] 70))
      skip
      go_wp2_with (at_builtin; refine wpl_apps rfl rfl el_u32 HO0.out rfl HA0.out rfl HWD.out ?_ ?_ HZZ.out ?_)
      · omega
      · omega
      · intro A7 c7 w7 ho hg _
        have hgrow := hg
        try rw [Nat.zero_add] at ho
        try rw [Nat.zero_add]
        try rw [List.nil_append] at ho
        obtain ⟨gh, rfl, hgh1, hgh2, hch⟩ := own_form ho (by omega)
        have hbw7 := HBA.out.grown hg (by have := HZZ.out; omega) (by intro k hk; cases hk; rw [HS1.out]; omega)
        have hkeep : KeepR g s1 w7.heap.size gm gh nb c5 c7 (padded bs) (firstSt.toList.map W) w w7 :=
          ⟨own_kept HMA.out hg (by intro k hk; cases hk; simp; rw [HS1.out]; have := HGM2.out; omega), ho,
           HBB.out.grown hg (by simp; rw [HS1.out]; omega), hbw7, Nat.le_refl _, Nat.lt_of_lt_of_le (by have := HGM2.out; have := HZZ.out; omega) hg.size, hgh2, by have := hg.size; have := HZZ.out; omega, by have := HGM2.out; omega, by omega⟩
        have HKEEP := Lib.hid hkeep
        clear hkeep hbw7 hgrow ho hg HBB HBA HMA HZZ HA0 HO0 HM
        generalize hs2 : w7.heap.size = s2 at *
        have HS2 := Lib.hid hs2; clear hs2
        have HGH1 := Lib.hid hgh1
        have HGH2 := Lib.hid hgh2
        clear hgh1 hgh2
        go_wp2_with fail
        refine rs_at HNB hnb2 HK HKEEP (Lib.hid ?_)
        intros
        rename_i wr hkeep_
        have hkeep := Lib.hid hkeep_; clear hkeep_
        obtain ⟨we, rfl⟩ : ∃ we : World, we = wr := ⟨_, rfl⟩
        have hsha : sha bs = outB (stB (padded bs) nb) := by rw [sha_eq, HNB.out, Nat.mul_div_cancel_left _ (by omega)]
        have HSHA := Lib.hid hsha; clear hsha
        generalize hst : stB (padded bs) nb = st at *
        clear hst
        go_wp2_with (first | (with_reducible refine wpl_alloc (o := ⟨some 23, _, _, _, _, _⟩) rfl rfl zero_id ?_))
        intro wf hbf hbwf hszf
        have HKO := Lib.hid (hkeep.out.grown (hg := ⟨hbwf.os, hbwf.tape, hbwf.output, hbwf.size, fun k hk _ => hbwf.block k hk⟩) (row := none) (by intro k hk; cases hk))
        obtain ⟨go, hgo⟩ : ∃ go, go = we.heap.size := ⟨_, rfl⟩
        rw [← hgo] at hbf hszf ⊢
        have HOUT := Lib.hid (show Blk wf go 26 (List.replicate 32 (B 0)) from hbf)
        have HGO := Lib.hid (show s2 ≤ go by rw [hgo]; exact hkeep.out.sz)
        clear hbf hbwf hszf hgo hkeep
        go_wp2_with fail
        refine rs_out HGO HOUT HKO (Lib.hid ?_)
        intros
        rename_i wr hout_ hkv_
        have hout := Lib.hid hout_; have hkv := Lib.hid hkv_; clear hout_ hkv_
        generalize hxx0 : (outB st).map B = xs at *
        have hxx := hxx0.symm
        have hxn0 : xs.length = 32 := by rw [hxx, List.length_map, outB_length]
        rw [← HSHA.out] at hxx
        have hxn : xs.length = 32 := hxn0
        have HX1 := Lib.hid (show ∀ v ∈ xs, v.oneCell' = true by rw [hxx]; exact all_bytes _)
        have HXX := Lib.hid hxx
        have HXN := Lib.hid hxn
        clear hxx hxn hxx0 hxn0
        go_wp2_with (first | (with_reducible refine wpl_loadb (o := ⟨some 323, _, _, _, _, _⟩) rfl rfl row_32 hout.out rfl HXN.out ?_) | (with_reducible refine wpl_storeb (o := ⟨none, .store _ _ _, _, _, _, _⟩) rfl rfl row_32 hkv.out.res rfl rfl len32 HXN.out HX1.out ?_))
        intro w11 hb11 hg11 hsz11
        have HB11 := Lib.hid hb11
        have HL11 := Lib.hid (hkv.out.low.grown hg11 (Nat.le_trans (Nat.le_of_lt hkv.out.lg) hkv.out.sz) (fun j hj => by cases hj; exact Nat.le_refl _))
        clear hb11 hg11 hsz11
        go_wp2_with fail
        refine bodyPost_ret (results_cell_row rfl _ _ g _ xs.toArray (0, 0) _ rfl HB11.out Tryd.underlying26 rfl (by rw [List.size_toArray, HXN.out]; kernel_rfl)) rfl ?_
        refine ⟨by rw [HXX.out], ?_⟩
        rw [HG.out]; exact HL11.out
end Go.Proofs.YtlondennhhffdaaDoor

/- Contracts of seisinref03.Of, Long; seisinref01.Pick. -/
import Derived.Test.YtlondennhhffdaaDoorRefB
import Derived.Test.YtlondennhhffdaaDoorSame
namespace Go.Proofs.YtlondennhhffdaaDoor
open Go.RowKit Go.Shelf
set_option linter.unusedVariables false

set_option maxHeartbeats 1000000 in
theorem of_any (A : Option Addr) (n c : Nat) (bs : List UInt8) (w : World) (hb : Sl w w.heap.size 1 A n (bs.map B)) (hl : n ≤ 1099511627776) :
    Calls Tryd.prog 20 #[.slice A n c] w fun e w' => e = .returned (.agg ((sha bs).map B).toArray) ∧ Below w.heap.size w w' := by
  have HS := Lib.hid hb; clear hb
  have HA := Lib.hid (all_bytes (sha bs))
  have HLN := Lib.hid (show ((sha bs).map B).length = 32 by rw [List.length_map, sha_length])
  have hrs := fun (Ah Ak : Option Addr) (w : World) h1 h2 h3 => rsum_any A Ah Ak n c 8 64 bs w h1 h2 h3 hl
  have HRS := Lib.hid hrs; clear hrs
  generalize hxs : (sha bs).map B = xs at *
  clear hxs
  go_enter Tryd.func20, Tryd.ntmps20
  go_wp2_with (first | (with_reducible refine wpl_alloc (o := ⟨some 2, _, _, _, _, _⟩) rfl rfl zero_id ?_))
  intro w1 hb1 hbw1 hsz1
  have HB1 := Lib.hid hb1; clear hb1
  have HBW1 := Lib.hid hbw1; clear hbw1
  have hs1 := (HS.out.below HBW1.out).more HBW1.out.size
  have HS1 := Lib.hid hs1; clear hs1
  generalize hgd : w.heap.size = g at *
  have HG := Lib.hid hgd; clear hgd
  have HSZ1 := Lib.hid hsz1; clear hsz1
  go_wp2_with fail
  refine (first_ref w1).mono ?_
  rintro e w2 ⟨g2, rfl, hs2, hb2⟩
  have HF2 := Lib.hid hs2
  have HS2 := Lib.hid ((HS1.out.below hb2).more hb2.size)
  have HB2 := Lib.hid (HB1.out.call hb2)
  have HBW2 := Lib.hid (below_step HBW1.out (by have := HSZ1.out; omega) hb2)
  have HZ2 := Lib.hid (Nat.le_trans (Nat.le_of_eq HSZ1.out.symm) hb2.size)
  clear hs2 hb2 HB1 HBW1 HS1
  go_wp2_with fail
  refine (rounds_ref w2).mono ?_
  rintro e w3 ⟨g3, rfl, hs3, hb3⟩
  have HR3 := Lib.hid hs3
  have HF3 := Lib.hid ((HF2.out.below hb3).more hb3.size)
  have HS3 := Lib.hid ((HS2.out.below hb3).more hb3.size)
  have HB3 := Lib.hid (HB2.out.call hb3)
  have HBW3 := Lib.hid (below_step HBW2.out (by have := HZ2.out; omega) hb3)
  have HZ3 := Lib.hid (Nat.le_trans HZ2.out hb3.size)
  clear hs3 hb3 HB2 HBW2 HS2 HF2
  go_wp2_with fail
  refine (HRS.out _ _ w3 HS3.out HF3.out HR3.out).mono ?_
  rintro e w4 ⟨rfl, hb4⟩
  have HB4 := Lib.hid (show Blk w4 g 26 (List.replicate 32 (B 0)) from HB3.out.call hb4)
  have HBW4 := Lib.hid (below_step HBW3.out (by have := HZ3.out; omega) hb4)
  have HZ4 := Lib.hid (Nat.le_trans HZ3.out hb4.size)
  clear hb4 HB3 HBW3 HS3 HF3 HR3 HRS
  have H1 := HA
  go_wp2_with (first | (with_reducible refine wpl_storeb (o := ⟨none, .store _ _ _, _, _, _, _⟩) rfl rfl row_32 HB4.out rfl rfl len32 HLN.out HA.out ?_))
  intro w5 hb5 hg5 hsz5
  have HB5 := Lib.hid hb5
  have HBW5 := Lib.hid (HBW4.out.grown hg5 (by have := HZ4.out; omega) (by intro k hk; cases hk; exact Nat.le_refl _))
  clear hb5 hg5 hsz5
  go_wp2_with fail
  refine bodyPost_ret (results_cell_row rfl _ _ g _ xs.toArray (0, 0) _ rfl HB5.out Tryd.underlying26 rfl (by rw [List.size_toArray, HLN.out]; kernel_rfl)) rfl ?_
  refine ⟨rfl, ?_⟩
  rw [HG.out]; exact HBW5.out

/-- A length as four bytes, and the bytes. -/
theorem long_any (A : Option Addr) (n c : Nat) (bs : List UInt8) (w : World) (hb : Sl w w.heap.size 1 A n (bs.map B)) (hl : n ≤ 4294967295) :
    Calls Tryd.prog 25 #[.slice A n c] w fun e w' => ∃ A' c', e = .returned (.slice A' (4 + n) c') ∧ w'.ownsRow w.heap.size 5 1 (.slice A' (4 + n) c') (4 + n) ((beBytes n 4 ++ bs).map B) ∧ Below w.heap.size w w' := by
  have HS := Lib.hid hb; clear hb
  have HA := Lib.hid (all_bytes bs)
  have e0 : (n : Int) / 16777216 = b8 (beByte n 4 0) := by have h : (n : Int) / 16777216 % 256 = b8 (beByte n 4 0) := beByte_div n 4 0; omega
  have e1 : (n : Int) / 65536 % 256 = b8 (beByte n 4 1) := beByte_div n 4 1
  have e2 : (n : Int) / 256 % 256 = b8 (beByte n 4 2) := beByte_div n 4 2
  have e3 : (n : Int) % 256 = b8 (beByte n 4 3) := by have := beByte_div n 4 3; simpa using this
  have HO := Lib.hid (World.ownsRow_lit (base := w.heap.size) (e := 5) (size := 1) w #[B (beByte n 4 0), B (beByte n 4 1), B (beByte n 4 2), B (beByte n 4 3)] 4 (Nat.le_refl _) (by simp [maxLen]) rfl)
  have HS1 := Lib.hid (HS.out.alloc (Nat.le_refl _) (.cells #[B (beByte n 4 0), B (beByte n 4 1), B (beByte n 4 2), B (beByte n 4 3)] 5))
  go_enter Tryd.func25, Tryd.ntmps25
  go_wp2_with (at_builtin; refine wpl_apps rfl rfl el_u8 HO.out rfl HS1.out rfl HA.out ?_ ?_ (Nat.le_of_lt (by simp)) ?_)
  · omega
  · omega
  · intro A' c' w' ho hg _
    have HO2 := Lib.hid ho
    have HB2 := Lib.hid (((Below.refl w.heap.size w).alloc (Nat.le_refl _) (.cells #[B (beByte n 4 0), B (beByte n 4 1), B (beByte n 4 2), B (beByte n 4 3)] 5)).grown hg (by simp) (by intro k hk; cases hk; exact Nat.le_refl _))
    clear ho hg e0 e1 e2 e3
    go_wp2_with fail
    go_ret
    refine ⟨A', c', rfl, ?_, HB2.out⟩
    have h := HO2.out
    have e : (beBytes n 4 ++ bs).map B = #[B (beByte n 4 0), B (beByte n 4 1), B (beByte n 4 2), B (beByte n 4 3)].toList ++ bs.map B := by
      rw [beBytes]; rfl
    rw [e]
    exact h
end Go.Proofs.YtlondennhhffdaaDoor

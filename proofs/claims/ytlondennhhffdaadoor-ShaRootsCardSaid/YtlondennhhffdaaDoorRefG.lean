/- seisinlaw03.awake. -/
import Derived.Test.YtlondennhhffdaaDoorRefF
import Derived.Lib.SlBytesConst
namespace Go.Proofs.YtlondennhhffdaaDoor
open Go.RowKit Go.Shelf
set_option linter.unusedVariables false

theorem abc_hex : hexB (sha [97, 98, 99]) = [98, 97, 55, 56, 49, 54, 98, 102, 56, 102, 48, 49, 99, 102, 101, 97, 52, 49, 52, 49, 52, 48, 100, 101, 53, 100, 97, 101, 50, 50, 50, 51, 98, 48, 48, 51, 54, 49, 97, 51, 57, 54, 49, 55, 55, 97, 57, 99, 98, 52, 49, 48, 102, 102, 54, 49, 102, 50, 48, 48, 49, 53, 97, 100] := by decide +kernel

theorem Sl.litm {sz : Nat} (w : World) (cs : Array Value) (t : TypeId) (fr : Nat × Nat) (n : Nat) (h : cs.size = n * sz) : Sl (w.alloc (.cells cs t fr)) (w.heap.size + 1) sz (some ⟨w.heap.size, 0, none⟩) n cs.toList :=
  ⟨by simpa using h, fun _ => ⟨_, _, rfl, by omega, fun j u hu => by rw [Nat.zero_add, World.cell?_alloc_mark]; simpa using hu⟩⟩
theorem conv_abc (w : World) : (convert 22 22 (.slice (some ⟨w.heap.size, 0, none⟩) 3 3)).run Tryd.prog (w.alloc (.cells #[.int .u8 97, .int .u8 98, .int .u8 99] 5)) = .ok (.slice (some ⟨w.heap.size, 0, none⟩) 3 3) (w.alloc (.cells #[.int .u8 97, .int .u8 98, .int .u8 99] 5 (3, 4))) :=
  Go.Lib.run_convert_bytes_const w 22 5 #[.int .u8 97, .int .u8 98, .int .u8 99] 3 3 Tryd.underlying22 (by kernel_rfl)
attribute [local go_sem high] conv_abc
set_option maxRecDepth 100000 in
set_option maxHeartbeats 1000000 in
theorem awake3_any (w : World) (ht : Tabs w) : Calls Tryd.prog 17 #[] w fun e w' => e = .returned (.bool true) ∧ Below w.heap.size w w' := by
  have HT := Lib.hid ht; clear ht
  have HX := Lib.hid abc_hex
  have HSL := Lib.hid (sha_length [97, 98, 99])
  have hbw : Below w.heap.size w ((w.alloc (.cells #[B 97, B 98, B 99] 5 (3, 4))).alloc (.cells #[.slice (some ⟨w.heap.size, 0, none⟩) 3 3] 22)) := ((Below.refl _ _).alloc (Nat.le_refl _) _).alloc (by simp) _
  have hparts : Parts ((w.alloc (.cells #[B 97, B 98, B 99] 5 (3, 4))).alloc (.cells #[.slice (some ⟨w.heap.size, 0, none⟩) 3 3] 22)) (w.heap.size + 2) (some ⟨w.heap.size + 1, 0, none⟩) 1 [(.slice (some ⟨w.heap.size, 0, none⟩) 3 3, [97, 98, 99])] := by
    have h1 := Sl.litm (sz := 1) w #[B 97, B 98, B 99] 5 (3, 4) 3 rfl
    have h2 := Sl.lit (sz := 1) (w.alloc (.cells #[B 97, B 98, B 99] 5 (3, 4))) #[.slice (some ⟨w.heap.size, 0, none⟩) 3 3] 22 1 rfl
    have e : (w.alloc (.cells #[B 97, B 98, B 99] 5 (3, 4))).heap.size = w.heap.size + 1 := by simp
    rw [e] at h2
    refine ⟨h2, ?_⟩
    intro p hp
    obtain rfl : p = (.slice (some ⟨w.heap.size, 0, none⟩) 3 3, [97, 98, 99]) := by simpa using hp
    exact ⟨_, 3, rfl, by simp, (h1.alloc (by rw [e]; exact Nat.le_refl _) _).more (by omega)⟩
  have HP := Lib.hid hparts; clear hparts
  have HBW := Lib.hid hbw; clear hbw
  have HTB := Lib.hid (HT.out.below HBW.out)
  go_enter Tryd.func17, Tryd.ntmps17
  go_wp2_with fail
  refine (sum_any _ 1 1 [(.slice (some ⟨w.heap.size, 0, none⟩) 3 3, [97, 98, 99])] _ (by simpa using HP.out) (by omega) (by simp [cat]) HTB.out).mono ?_
  rintro e w2 ⟨rfl, hb2⟩
  have HB2 := Lib.hid (below_step HBW.out (by simp; omega) hb2)
  rw [show cat [((.slice (some ⟨w.heap.size, 0, none⟩) 3 3 : Value), ([97, 98, 99] : List UInt8))] = [97, 98, 99] by simp [cat]]
  clear hb2 HP HBW HTB
  generalize hsh : sha [97, 98, 99] = ds at *
  clear hsh
  obtain ⟨xs, hxs⟩ : ∃ xs, xs = ds.map B := ⟨_, rfl⟩
  rw [← hxs]
  have hhex := fun w => hex_any ds w HSL.out
  rw [← hxs, HX.out] at hhex
  have HHX := Lib.hid hhex
  clear hhex hxs
  go_wp2_with fail
  refine (HHX.out w2).mono ?_
  rintro e w3 ⟨rfl, hb3⟩
  have HB3 := Lib.hid (below_step HB2.out HB2.out.size hb3)
  clear hb3 HB2
  go_wp2_with fail
  have hsm := same_any (List.replicate 32 0) (List.replicate 32 0) w3 (by simp) (by simp)
  refine Calls.mono (show Calls Tryd.prog 22 _ w3 _ from hsm) ?_
  rintro e w4 ⟨rfl, hb4⟩
  have HB4 := Lib.hid (below_step HB3.out HB3.out.size hb4)
  rw [show decide (List.replicate 32 (0 : UInt8) = List.replicate 32 0) = true by simp]
  clear hsm hb4 HB3
  go_wp2_with fail
  go_ret
  exact ⟨rfl, HB4.out⟩
end Go.Proofs.YtlondennhhffdaaDoor

/- Contracts of seisinref03: right, First, Rounds. -/
import Derived.Test.YtlondennhhffdaaDoorShaE
namespace Go.Proofs.YtlondennhhffdaaDoor
open Go.RowKit Go.Shelf
set_option linter.unusedVariables false

attribute [local go_sem ↓ high] add_w
attribute [local go_sem high] xor_w and_w or_w not_w shr_w shl_w wrap_b8

theorem info_u32 : (Tryd.prog.info? 70).map (fun i => (i.zero, i.size, i.bytes)) = some (some (.int .u32 0), 1, 4) := by kernel_rfl
theorem el_u32 : ElemT Tryd.prog 34 70 1 4 := elemT Tryd.underlying34 info_u32 rfl (by omega)

theorem right_any (x : UInt32) (n : Nat) (w : World) (h2 : 1 ≤ n) (h3 : n ≤ 31) :
    Calls Tryd.prog 53 #[.int .u32 (w32 x), .int .i64 n] w fun e w' => e = .returned (.int .u32 (w32 (rotr x (UInt32.ofNat n)))) ∧ ∃ m, w' = w.drewN m := by
  have q0 : 0 ≤ (n : Int) := by omega
  have q1 : (n : Int) ≤ 31 := by omega
  have q2 : IntKind.i64.wrap (32 - (n : Int)) = 32 - (n : Int) := IntWalk.i64_in _ (by omega)
  have q3 : 0 ≤ 32 - (n : Int) := by omega
  have q4 : 32 - (n : Int) ≤ 31 := by omega
  have q5 : (32 - (n : Int)).toNat = 32 - n := by omega
  go_enter Tryd.func53, Tryd.ntmps53
  repeat' (first | (with_reducible refine wp_region_quiet_lit (id := 1) (by kernel_rfl) (by kernel_rfl) ?_) | go_values | go_skip | go_guarded | go_step | go_upon | go_back)
  repeat (quiet_step (fail))
  refine wpQuiet_nil ?_
  intro _ hw'
  obtain ⟨nq, hw''⟩ := hw'
  subst hw''
  clear q2 q3 q4 q5 q0 q1
  go_wp2_with fail
  go_ret
  refine ⟨?_, nq, rfl⟩
  rw [rotr]
  have e : UInt32.ofNat (32 - n) = 32 - UInt32.ofNat n := by
    apply UInt32.toNat_inj.1
    rw [UInt32.toNat_sub_of_le _ _ (by rw [UInt32.le_iff_toNat_le, UInt32.toNat_ofNat']; simp; omega), UInt32.toNat_ofNat', UInt32.toNat_ofNat']
    simp; omega
  rw [← e]
  simp
  rw [IntKind.wrap_u32, shl_nat x _ (by omega), shr_nat x n h3, bits_or_w]
theorem right_k (x : UInt32) (z : Int) (n : UInt32) (k : Nat) (hz : z = (k : Int)) (hn : n = UInt32.ofNat k) (h2 : 1 ≤ k) (h3 : k ≤ 31) (w : World) :
    Calls Tryd.prog 53 #[.int .u32 (w32 x), .int .i64 z] w fun e w' => e = .returned (.int .u32 (w32 (rotr x n))) ∧ ∃ m, w' = w.drewN m := by
  subst hz; subst hn
  exact right_any x k w h2 h3

theorem r7 (x : UInt32) (w : World) : Calls Tryd.prog 53 #[.int .u32 (w32 x), .int .i64 7] w fun e w' => e = .returned (.int .u32 (w32 (rotr x 7))) ∧ ∃ m, w' = w.drewN m := right_k x 7 7 7 rfl rfl (by omega) (by omega) w
theorem r18 (x : UInt32) (w : World) : Calls Tryd.prog 53 #[.int .u32 (w32 x), .int .i64 18] w fun e w' => e = .returned (.int .u32 (w32 (rotr x 18))) ∧ ∃ m, w' = w.drewN m := right_k x 18 18 18 rfl rfl (by omega) (by omega) w
theorem r17 (x : UInt32) (w : World) : Calls Tryd.prog 53 #[.int .u32 (w32 x), .int .i64 17] w fun e w' => e = .returned (.int .u32 (w32 (rotr x 17))) ∧ ∃ m, w' = w.drewN m := right_k x 17 17 17 rfl rfl (by omega) (by omega) w
theorem r19 (x : UInt32) (w : World) : Calls Tryd.prog 53 #[.int .u32 (w32 x), .int .i64 19] w fun e w' => e = .returned (.int .u32 (w32 (rotr x 19))) ∧ ∃ m, w' = w.drewN m := right_k x 19 19 19 rfl rfl (by omega) (by omega) w
theorem r2 (x : UInt32) (w : World) : Calls Tryd.prog 53 #[.int .u32 (w32 x), .int .i64 2] w fun e w' => e = .returned (.int .u32 (w32 (rotr x 2))) ∧ ∃ m, w' = w.drewN m := right_k x 2 2 2 rfl rfl (by omega) (by omega) w
theorem r13 (x : UInt32) (w : World) : Calls Tryd.prog 53 #[.int .u32 (w32 x), .int .i64 13] w fun e w' => e = .returned (.int .u32 (w32 (rotr x 13))) ∧ ∃ m, w' = w.drewN m := right_k x 13 13 13 rfl rfl (by omega) (by omega) w
theorem r22 (x : UInt32) (w : World) : Calls Tryd.prog 53 #[.int .u32 (w32 x), .int .i64 22] w fun e w' => e = .returned (.int .u32 (w32 (rotr x 22))) ∧ ∃ m, w' = w.drewN m := right_k x 22 22 22 rfl rfl (by omega) (by omega) w
theorem r6 (x : UInt32) (w : World) : Calls Tryd.prog 53 #[.int .u32 (w32 x), .int .i64 6] w fun e w' => e = .returned (.int .u32 (w32 (rotr x 6))) ∧ ∃ m, w' = w.drewN m := right_k x 6 6 6 rfl rfl (by omega) (by omega) w
theorem r11 (x : UInt32) (w : World) : Calls Tryd.prog 53 #[.int .u32 (w32 x), .int .i64 11] w fun e w' => e = .returned (.int .u32 (w32 (rotr x 11))) ∧ ∃ m, w' = w.drewN m := right_k x 11 11 11 rfl rfl (by omega) (by omega) w
theorem r25 (x : UInt32) (w : World) : Calls Tryd.prog 53 #[.int .u32 (w32 x), .int .i64 25] w fun e w' => e = .returned (.int .u32 (w32 (rotr x 25))) ∧ ∃ m, w' = w.drewN m := right_k x 25 25 25 rfl rfl (by omega) (by omega) w

theorem first_vals : (firstSt.toList.map W) = [.int .u32 1779033703, .int .u32 3144134277, .int .u32 1013904242, .int .u32 2773480762, .int .u32 1359893119, .int .u32 2600822924, .int .u32 528734635, .int .u32 1541459225] := by
  simp [firstSt, St.toList, W, w32]
theorem first_ref (w : World) : Calls Tryd.prog 51 #[] w fun e w' => ∃ g, e = .returned (.slice (some ⟨g, 0, none⟩) 8 8) ∧ Sl w' w'.heap.size 1 (some ⟨g, 0, none⟩) 8 (firstSt.toList.map W) ∧ Below w.heap.size w w' := by
  go_enter Tryd.func51, Tryd.ntmps51
  go_wp2_with fail
  go_ret
  refine ⟨_, rfl, ?_, ?_⟩
  · have h := Sl.lit w (firstSt.toList.map W).toArray 70 8 (sz := 1) (by simp; rfl)
    rw [first_vals] at h ⊢
    have h2 := h.more (B' := (w.heap.size + 1)) (Nat.le_refl _)
    simpa using h2
  · exact (Below.refl _ _).alloc (Nat.le_refl _) _
theorem round_vals : (roundKs.map W) = [
    .int .u32 1116352408, .int .u32 1899447441, .int .u32 3049323471, .int .u32 3921009573, .int .u32 961987163, .int .u32 1508970993, .int .u32 2453635748, .int .u32 2870763221, .int .u32 3624381080, .int .u32 310598401, .int .u32 607225278, .int .u32 1426881987, .int .u32 1925078388, .int .u32 2162078206, .int .u32 2614888103, .int .u32 3248222580,
    .int .u32 3835390401, .int .u32 4022224774, .int .u32 264347078, .int .u32 604807628, .int .u32 770255983, .int .u32 1249150122, .int .u32 1555081692, .int .u32 1996064986, .int .u32 2554220882, .int .u32 2821834349, .int .u32 2952996808, .int .u32 3210313671, .int .u32 3336571891, .int .u32 3584528711, .int .u32 113926993, .int .u32 338241895,
    .int .u32 666307205, .int .u32 773529912, .int .u32 1294757372, .int .u32 1396182291, .int .u32 1695183700, .int .u32 1986661051, .int .u32 2177026350, .int .u32 2456956037, .int .u32 2730485921, .int .u32 2820302411, .int .u32 3259730800, .int .u32 3345764771, .int .u32 3516065817, .int .u32 3600352804, .int .u32 4094571909, .int .u32 275423344,
    .int .u32 430227734, .int .u32 506948616, .int .u32 659060556, .int .u32 883997877, .int .u32 958139571, .int .u32 1322822218, .int .u32 1537002063, .int .u32 1747873779, .int .u32 1955562222, .int .u32 2024104815, .int .u32 2227730452, .int .u32 2361852424, .int .u32 2428436474, .int .u32 2756734187, .int .u32 3204031479, .int .u32 3329325298] := by
  simp [roundKs, W, w32]
theorem rounds_ref (w : World) : Calls Tryd.prog 52 #[] w fun e w' => ∃ g, e = .returned (.slice (some ⟨g, 0, none⟩) 64 64) ∧ Sl w' w'.heap.size 1 (some ⟨g, 0, none⟩) 64 (roundKs.map W) ∧ Below w.heap.size w w' := by
  go_enter Tryd.func52, Tryd.ntmps52
  go_wp2_with fail
  go_ret
  refine ⟨_, rfl, ?_, ?_⟩
  · have h := Sl.lit w (roundKs.map W).toArray 70 64 (sz := 1) (by simp; rfl)
    rw [round_vals] at h ⊢
    have h2 := h.more (B' := (w.heap.size + 1)) (Nat.le_refl _)
    simpa using h2
  · exact (Below.refl _ _).alloc (Nat.le_refl _) _
end Go.Proofs.YtlondennhhffdaaDoor

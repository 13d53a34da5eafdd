/- Contracts of the small functions of package sha. -/
import Derived.Test.YtlondennhhffdaaDoorWords
import Derived.Test.YtlondennhhffdaaDoorRows
import Derived.Deep.QuietTactic
import Derived.BigQuiet
import Derived.StillTailTactics
namespace Go.Proofs.YtlondennhhffdaaDoor
open Go.RowKit
attribute [local go_sem ↓ high] add_w
attribute [local go_sem high] xor_w and_w or_w not_w shr_w shl_w wrap_b8
set_option linter.unusedVariables false

theorem neg_and (n : Nat) (h : 1 ≤ n) (h3 : n ≤ 31) : bits BinOp.and IntKind.u64 (IntKind.u64.wrap (-(n : Int))) 31 = ((32 - n : Nat) : Int) := by
  have : ∀ n : Fin 32, 1 ≤ n.val → bits BinOp.and IntKind.u64 (IntKind.u64.wrap (-(n.val : Int))) 31 = ((32 - n.val : Nat) : Int) := by decide +kernel
  exact this ⟨n, by omega⟩ h

theorem shl_nat (x : UInt32) (k : Nat) (hk : k ≤ 31) : w32 x * 2 ^ k % 4294967296 = w32 (x <<< UInt32.ofNat k) := by
  unfold w32
  rw [UInt32.toNat_shiftLeft, UInt32.toNat_ofNat', Nat.shiftLeft_eq, show k % 2 ^ 32 % 32 = k by omega]
  simp
theorem shr_nat (x : UInt32) (k : Nat) (hk : k ≤ 31) : w32 x / 2 ^ k = w32 (x >>> UInt32.ofNat k) := by
  unfold w32
  rw [UInt32.toNat_shiftRight, UInt32.toNat_ofNat', Nat.shiftRight_eq_div_pow, show k % 2 ^ 32 % 32 = k by omega]
  simp
theorem bits_or_w (a b : UInt32) : bits BinOp.or IntKind.u32 (w32 a) (w32 b) = w32 (a ||| b) := by
  have h := or_w a b
  rw [intBits_or] at h
  injection h with h
  injection h

theorem turn_any (x : UInt32) (n : Nat) (w : World) (h2 : 1 ≤ n) (h3 : n ≤ 31) :
    Calls Tryd.prog 70 #[.int .u32 (w32 x), .int .i64 n] w fun e w' => e = .returned (.int .u32 (w32 (rotr x (UInt32.ofNat n)))) ∧ w = w' := by
  have hn := neg_and n h2 h3
  go_enter Tryd.func70, Tryd.ntmps70
  go_wp2
  go_ret
  refine ⟨?_, rfl⟩
  simp
  rw [shl_nat x _ (by omega), show 32 - (32 - n) = n by omega, shr_nat x n h3, bits_or_w, rotr, UInt32.or_comm]
  congr 3
  apply UInt32.toNat_inj.1
  rw [UInt32.toNat_sub_of_le _ _ (by rw [UInt32.le_iff_toNat_le, UInt32.toNat_ofNat']; simp; omega), UInt32.toNat_ofNat', UInt32.toNat_ofNat']
  simp; omega

/-- A byte of a slice at place k. -/
theorem Sl.byte {w : World} {Bd n : Nat} {A : Option Addr} {bs : List UInt8} (h : Sl w Bd 1 A n (bs.map B)) {k : Nat} (hk : k < n) : ∃ b off, A = some ⟨b, off, none⟩ ∧ b < Bd ∧ k < bs.length ∧ w.cell? ⟨b, off + k, none⟩ = some (.int .u8 (b8 (bs[k]?.getD 0))) := by
  obtain ⟨b, off, u, e, hb, hu, hc⟩ := h.at_ hk
  rw [List.getElem?_map] at hu
  obtain ⟨z, h1, rfl⟩ := Option.map_eq_some_iff.1 hu
  exact ⟨b, off, e, hb, (List.getElem?_eq_some_iff.1 h1).1, by rw [hc, h1]; rfl⟩

theorem turn_k (x : UInt32) (z : Int) (n : UInt32) (k : Nat) (hz : z = (k : Int)) (hn : n = UInt32.ofNat k) (h2 : 1 ≤ k) (h3 : k ≤ 31) (w : World) :
    Calls Tryd.prog 70 #[.int .u32 (w32 x), .int .i64 z] w fun e w' => e = .returned (.int .u32 (w32 (rotr x n))) ∧ w' = w := by
  subst hz; subst hn
  exact (turn_any x k w h2 h3).mono fun _ _ ⟨h, h'⟩ => ⟨h, h'.symm⟩
theorem t2 (x : UInt32) (w : World) : Calls Tryd.prog 70 #[.int .u32 (w32 x), .int .i64 2] w fun e w' => e = .returned (.int .u32 (w32 (rotr x 2))) ∧ w' = w := turn_k x 2 2 2 rfl rfl (by omega) (by omega) w
theorem t13 (x : UInt32) (w : World) : Calls Tryd.prog 70 #[.int .u32 (w32 x), .int .i64 13] w fun e w' => e = .returned (.int .u32 (w32 (rotr x 13))) ∧ w' = w := turn_k x 13 13 13 rfl rfl (by omega) (by omega) w
theorem t22 (x : UInt32) (w : World) : Calls Tryd.prog 70 #[.int .u32 (w32 x), .int .i64 22] w fun e w' => e = .returned (.int .u32 (w32 (rotr x 22))) ∧ w' = w := turn_k x 22 22 22 rfl rfl (by omega) (by omega) w
theorem t6 (x : UInt32) (w : World) : Calls Tryd.prog 70 #[.int .u32 (w32 x), .int .i64 6] w fun e w' => e = .returned (.int .u32 (w32 (rotr x 6))) ∧ w' = w := turn_k x 6 6 6 rfl rfl (by omega) (by omega) w
theorem t11 (x : UInt32) (w : World) : Calls Tryd.prog 70 #[.int .u32 (w32 x), .int .i64 11] w fun e w' => e = .returned (.int .u32 (w32 (rotr x 11))) ∧ w' = w := turn_k x 11 11 11 rfl rfl (by omega) (by omega) w
theorem t25 (x : UInt32) (w : World) : Calls Tryd.prog 70 #[.int .u32 (w32 x), .int .i64 25] w fun e w' => e = .returned (.int .u32 (w32 (rotr x 25))) ∧ w' = w := turn_k x 25 25 25 rfl rfl (by omega) (by omega) w
theorem t7 (x : UInt32) (w : World) : Calls Tryd.prog 70 #[.int .u32 (w32 x), .int .i64 7] w fun e w' => e = .returned (.int .u32 (w32 (rotr x 7))) ∧ w' = w := turn_k x 7 7 7 rfl rfl (by omega) (by omega) w
theorem t18 (x : UInt32) (w : World) : Calls Tryd.prog 70 #[.int .u32 (w32 x), .int .i64 18] w fun e w' => e = .returned (.int .u32 (w32 (rotr x 18))) ∧ w' = w := turn_k x 18 18 18 rfl rfl (by omega) (by omega) w
theorem t17 (x : UInt32) (w : World) : Calls Tryd.prog 70 #[.int .u32 (w32 x), .int .i64 17] w fun e w' => e = .returned (.int .u32 (w32 (rotr x 17))) ∧ w' = w := turn_k x 17 17 17 rfl rfl (by omega) (by omega) w
theorem t19 (x : UInt32) (w : World) : Calls Tryd.prog 70 #[.int .u32 (w32 x), .int .i64 19] w fun e w' => e = .returned (.int .u32 (w32 (rotr x 19))) ∧ w' = w := turn_k x 19 19 19 rfl rfl (by omega) (by omega) w

theorem word_any (A : Option Addr) (n c : Nat) (bs : List UInt8) (w : World) (hs : Sl w w.heap.size 1 A n (bs.map B)) (h4 : 4 ≤ n) :
    Calls Tryd.prog 75 #[.slice A n c] w fun e w' => e = .returned (.int .u32 (w32 (word4 (bs[0]?.getD 0) (bs[1]?.getD 0) (bs[2]?.getD 0) (bs[3]?.getD 0)))) ∧ Below w.heap.size w w' := by
  obtain ⟨b, off, rfl, -, -, c0⟩ := hs.byte (k := 0) (by omega)
  obtain ⟨b1, off1, e1, -, -, c1⟩ := hs.byte (k := 1) (by omega)
  obtain ⟨b2, off2, e2, -, -, c2⟩ := hs.byte (k := 2) (by omega)
  obtain ⟨b3, off3, e3, -, -, c3⟩ := hs.byte (k := 3) (by omega)
  cases e1; cases e2; cases e3
  clear hs
  generalize bs[0]?.getD 0 = x0 at *
  generalize bs[1]?.getD 0 = x1 at *
  generalize bs[2]?.getD 0 = x2 at *
  generalize bs[3]?.getD 0 = x3 at *
  rw [Nat.add_zero] at c0
  have g0 : (0 : Int) < n := by omega
  have g1 : (1 : Int) < n := by omega
  have g2 : (2 : Int) < n := by omega
  have g3 : (3 : Int) < n := by omega
  go_enter Tryd.func75, Tryd.ntmps75
  go_wp2_with fail
  go_quiet (fail)
  go_wp2_with fail
  go_ret
  exact ⟨ret_int (by rw [word4]), below_dn (Below.refl _ _) _⟩

theorem W0 : Value.int .u32 0 = W 0 := rfl

theorem row_64 : RowT Tryd.prog 92 64 := ⟨_, Tryd.underlying92, by kernel_rfl, by kernel_rfl⟩
theorem row_8 : RowT Tryd.prog 71 8 := ⟨_, Tryd.underlying71, by kernel_rfl, by kernel_rfl⟩
theorem row_id : RowT Tryd.prog 26 32 := ⟨_, Tryd.underlying26, by kernel_rfl, by kernel_rfl⟩
theorem zero_64 : (Tryd.prog.info? 92).map (·.zero) = some (some (.agg (List.replicate 64 (W 0)).toArray)) := by kernel_rfl
theorem zero_id : (Tryd.prog.info? 26).map (·.zero) = some (some (.agg (List.replicate 32 (B 0)).toArray)) := by kernel_rfl

set_option maxRecDepth 100000 in
set_option maxHeartbeats 1000000 in
theorem sched_any (A : Option Addr) (c : Nat) (bs : List UInt8) (w : World) (hs : Sl w w.heap.size 1 A 64 (bs.map B)) (hc : 64 ≤ c) :
    Calls Tryd.prog 69 #[.slice A 64 c] w fun e w' => e = .returned (.agg ((sched bs).map W).toArray) ∧ Below w.heap.size w w' := by
  have HS := Lib.hid hs; clear hs
  go_enter Tryd.func69, Tryd.ntmps69
  go_wp2_with (with_reducible refine wpl_alloc (o := ⟨some 2, _, _, _, _, _⟩) rfl rfl zero_64 ?_)
  intro w1 hb1 hbw1 hsz1
  have HB1 := Lib.hid hb1; clear hb1
  have HBW1 := Lib.hid hbw1; clear hbw1
  generalize hgd : w.heap.size = g at *
  have HG := Lib.hid hgd; clear hgd
  have HSZ := Lib.hid hsz1; clear hsz1
  obtain ⟨b, off, rfl, hbb, -⟩ := HS.out.2 (by omega)
  go_wp2_with fail
  go_loopw [7] (fun i wr => ∃ k : Nat, ∃ xs : List Value, k ≤ 16 ∧ i = .int .i64 k ∧ Hid (Blk wr g 92 xs) ∧ Hid (xs.length = 64 ∧ ∀ i, i < k → xs[i]? = some (W (sw bs i))) ∧ Hid (Below g w wr)) (fun i _ => 16 - (intOf i).toNat)
  case atStart => exact ⟨0, _, by omega, rfl, HB1, ⟨by simp, fun i hi => absurd hi (by omega)⟩, HBW1⟩
  case round =>
    obtain ⟨k, xs, hk, rfl, hblk, hxs, hbw⟩ := hrel
    by_cases hlt : k < 16
    · have i0 : (4 * (k : Int)).toNat = 4 * k := by omega
      have i1 : 4 * (k : Int) ≤ 64 := by omega
      have i2 : ¬ c = 4 * k := by omega
      go_wp2_with fail
      have hsl := HS.out.below hbw.out
      have hle : g ≤ wr.heap.size := by have := hblk.out.lt; omega
      have hsl2 := (hsl.from_ (k := 4 * k) (by omega)).more hle
      rw [← List.map_drop] at hsl2
      refine (word_any _ _ _ _ _ hsl2 (by omega)).mono ?_
      rintro e w2 ⟨rfl, hb2⟩
      have hw : word4 ((bs.drop (4 * k))[0]?.getD 0) ((bs.drop (4 * k))[1]?.getD 0) ((bs.drop (4 * k))[2]?.getD 0) ((bs.drop (4 * k))[3]?.getD 0) = sw bs k := by
        rw [sw_lo bs k hlt]; simp [blkWord, List.getElem?_drop]
      rw [hw]
      have hblk2 := hblk.out.call hb2
      have hfz := hblk2.frozen k
      obtain ⟨u, hcl⟩ : ∃ u, w2.cell? ⟨g, k, none⟩ = some u := ⟨_, hblk2.at_ (List.getElem?_eq_getElem (by rw [hxs.out.1]; omega))⟩
      have HB2 := Lib.hid hblk2
      have HBL := Lib.hid (below_step hbw.out (by have := hblk.out.lt; omega) hb2)
      clear hblk2 hb2 hsl hsl2 hw hle
      go_wp2_with fail
      go_roundw
      case rel => exact ⟨k + 1, _, by omega, by go_num, HB2.out.set_ k _, ⟨by simp [hxs.out.1], set_upto (f := fun i => W (sw bs i)) hxs.out.1 (by omega) hxs.out.2⟩, HBL.out.setCell (p := ⟨g, k, none⟩) (Nat.le_refl _) _⟩
      case measure => simp [intOf]; omega
    · obtain rfl : k = 16 := by omega
      rw [show ((16 : Nat) : Int) = 16 from rfl]
      obtain ⟨wo, rfl⟩ : ∃ wo : World, wo = wr := ⟨_, rfl⟩
      go_wp2_with fail
      go_loopw [4] (fun i wr => ∃ k : Nat, ∃ xs : List Value, 16 ≤ k ∧ k ≤ 64 ∧ i = .int .i64 k ∧ Hid (Blk wr g 92 xs) ∧ Hid (xs.length = 64 ∧ ∀ i, i < k → xs[i]? = some (W (sw bs i))) ∧ Hid (Below g w wr)) (fun i _ => 64 - (intOf i).toNat)
      case atStart => exact ⟨16, xs, by omega, by omega, rfl, hblk, hxs, hbw⟩
      case round =>
        clear hblk hxs hbw xs
        obtain ⟨k, xs, hk0, hk, rfl, hblk, hxs, hbw⟩ := hrel
        by_cases hlt : k < 64
        · have c15 := hblk.out.at_ (hxs.out.2 (k - 15) (by omega))
          have c2 := hblk.out.at_ (hxs.out.2 (k - 2) (by omega))
          have hs := sw_hi bs k hk0 hlt
          have HSW := Lib.hid hs; clear hs
          have j15 : 0 ≤ (k : Int) - 15 := by omega
          have j2 : 0 ≤ (k : Int) - 2 := by omega
          have l15 : (k : Int) - 15 < 64 := by omega
          have l2 : (k : Int) - 2 < 64 := by omega
          unfold W at c15 c2
          have y15 := IntWalk.i64_in ((k : Int) - 15) (by omega)
          have y2 := IntWalk.i64_in ((k : Int) - 2) (by omega)
          have n15 : 15 ≤ k := by omega
          have n2 : 2 ≤ k := by omega
          have p15 : (15 : Int) ≤ k := by omega
          have p2 : (2 : Int) ≤ k := by omega
          have z15 : ((k : Int) - 15).toNat = k - 15 := by omega
          have z2 : ((k : Int) - 2).toNat = k - 2 := by omega
          repeat' (first | (with_reducible refine wp_region_quiet_lit (id := 9) (by kernel_rfl) (by kernel_rfl) ?_) | go_values | go_skip | go_guarded | go_step | go_upon | go_back)
          repeat (quiet_step (fail))
          refine wpQuiet_nil ?_
          intro _ hw'
          obtain ⟨nq, hw''⟩ := hw'
          subst hw''
          clear y15 y2 z15 z2
          clear c15 c2
          repeat' (first | (with_reducible refine wp_tail (id := 10) 29 (by kernel_rfl) (by kernel_rfl) ?_) | go_values | go_skip | go_guarded | go_step | go_upon | go_back)
          intro w3 hd3
          simp only [List.take_succ_cons, List.take_zero, List.drop_succ_cons, List.drop_zero]
          have hblk3 := hd3.blk (hblk.out.drewN nq)
          have hbw3 := hd3.below (below_dn hbw.out nq)
          clear hd3
          have d16 := hblk3.at_ (hxs.out.2 (k - 16) (by omega))
          have d7 := hblk3.at_ (hxs.out.2 (k - 7) (by omega))
          have j16 : 0 ≤ (k : Int) - 16 := by omega
          have j7 : 0 ≤ (k : Int) - 7 := by omega
          have l16 : (k : Int) - 16 < 64 := by omega
          have l7 : (k : Int) - 7 < 64 := by omega
          unfold W at d16 d7
          have y16 := IntWalk.i64_in ((k : Int) - 16) (by omega)
          have y7 := IntWalk.i64_in ((k : Int) - 7) (by omega)
          have n16 : 16 ≤ k := by omega
          have n7 : 7 ≤ k := by omega
          have p16 : (16 : Int) ≤ k := by omega
          have p7 : (7 : Int) ≤ k := by omega
          have z16 : ((k : Int) - 16).toNat = k - 16 := by omega
          have z7 : ((k : Int) - 7).toNat = k - 7 := by omega
          have HB3 := Lib.hid hblk3
          have HBW3 := Lib.hid hbw3
          clear hblk3 hbw3
          repeat still_step
          still_call (t7 _ _)
          repeat still_step
          still_call (t18 _ _)
          repeat still_step
          still_call (t17 _ _)
          repeat still_step
          still_call (t19 _ _)
          repeat still_step
          refine wpStill_nil ?_
          clear y16 y7 z16 z7 d16 d7
          have hfz := HB3.out.frozen k
          obtain ⟨u, hcl⟩ : ∃ u, w3.cell? ⟨g, k, none⟩ = some u := ⟨_, HB3.out.at_ (List.getElem?_eq_getElem (by rw [hxs.out.1]; omega))⟩
          repeat' (first | go_values | go_skip | go_guarded | go_step | go_upon | go_back)
          go_roundw
          case rel =>
            refine ⟨k + 1, _, by omega, by omega, by go_num, HB3.out.set_ k _, ⟨by simp [hxs.out.1], ?_⟩, HBW3.out.setCell (p := ⟨g, k, none⟩) (Nat.le_refl _) _⟩
            have e : sw bs k = sw bs (k - 16) + (rotr (sw bs (k - 15)) 7 ^^^ rotr (sw bs (k - 15)) 18 ^^^ sw bs (k - 15) >>> 3) + sw bs (k - 7) + (rotr (sw bs (k - 2)) 17 ^^^ rotr (sw bs (k - 2)) 19 ^^^ sw bs (k - 2) >>> 10) := by
              rw [HSW.out, sig0, sig1]
            rw [← e]
            exact set_upto (f := fun i => W (sw bs i)) hxs.out.1 (by omega) hxs.out.2
          case measure => simp [intOf]; omega
        · obtain rfl : k = 64 := by omega
          have hx := eq_of_upto (f := fun i => W (sw bs i)) hxs.out.1 hxs.out.2
          have hl : xs.length = 64 := hxs.out.1
          have h1 : ∀ u ∈ xs, u.oneCell' = true := by
            intro u hu
            rw [hx] at hu
            obtain ⟨i, _, rfl⟩ := List.mem_map.1 hu
            rfl
          have HX := Lib.hid hx
          have HL := Lib.hid hl
          have H1 := Lib.hid h1
          clear hx hl h1
          go_wp2_with (first | (with_reducible refine wpl_loadb (o := ⟨some 59, _, _, _, _, _⟩) rfl rfl row_64 hblk.out rfl HL.out ?_) | (with_reducible refine wpl_storeb (o := ⟨none, .store _ _ _, _, _, _, _⟩) rfl rfl row_64 hblk.out rfl rfl HL.out HL.out H1.out ?_))
          intro w5 hb5 hg5 _
          have HB5 := Lib.hid hb5
          have HBW5 := Lib.hid (hbw.out.grown hg5 (by have := hblk.out.lt; omega) (by intro k hk; cases hk; exact Nat.le_refl _))
          clear hb5 hg5
          repeat' (first | go_values | go_skip | go_guarded | go_step | go_upon | go_back)
          refine ret_cell rfl row_64 HB5.out rfl HL.out rfl ⟨?_, ?_⟩
          · rw [HX.out, sched_eq, List.map_map]; rfl
          · exact HG.out ▸ HBW5.out
end Go.Proofs.YtlondennhhffdaaDoor

/- slices.rotateCmpFunc at floats: two ranges that lie side by side change places. -/
import Derived.Test.YtccigmpbcjlogaaRateSortsB4
import Derived.Test.YtccigmpbcjlogaaRateSortsB1
set_option linter.unusedSimpArgs false
/- slices.rotateCmpFunc at floats: two ranges that lie side by side change places. -/
namespace Go.Proofs.Ytccigmpbcjlogaa
open Go.RowKit
set_option linter.unusedVariables false
/-- What is still to be rotated: X of i behind P, then Y of j. -/
def RotI (m i j : Nat) (f T : List Nat) : Prop := ∃ P X Y S, f = P ++ X ++ Y ++ S ∧ X.length = i ∧ Y.length = j ∧ P.length + i = m ∧ T = P ++ Y ++ X ++ S
theorem RotI.big {m i j n : Nat} {f T : List Nat} (h : RotI m i j f T) (hj : j < i) (hl : f.length = n) : ∃ A U M V B, f = A ++ U ++ M ++ V ++ B ∧ U.length = j ∧ V.length = j ∧ A.length = m - i ∧ A.length + j + M.length = m ∧ RotI m (i - j) j (A ++ V ++ M ++ U ++ B) T ∧ m + j ≤ n := by
  obtain ⟨P, X, Y, S, rfl, hx, hy, hm, rfl⟩ := h
  refine ⟨P, X.take j, X.drop j, Y, S, by simp, by rw [List.length_take]; omega, hy, by omega, by rw [List.length_drop]; omega, ⟨P ++ Y, X.drop j, X.take j, S, by simp, by rw [List.length_drop]; omega, by rw [List.length_take]; omega, by rw [List.length_append]; omega, by simp⟩, ?_⟩
  simp only [List.length_append] at hl; omega
theorem RotI.small {m i j n : Nat} {f T : List Nat} (h : RotI m i j f T) (hj : i < j) (hl : f.length = n) : ∃ A U M V B, f = A ++ U ++ M ++ V ++ B ∧ U.length = i ∧ V.length = i ∧ A.length = m - i ∧ A.length + i + M.length = m + j - i ∧ RotI m i (j - i) (A ++ V ++ M ++ U ++ B) T ∧ m + j ≤ n := by
  obtain ⟨P, X, Y, S, rfl, hx, hy, hm, rfl⟩ := h
  refine ⟨P, X, Y.take (j - i), Y.drop (j - i), S, by simp [List.append_assoc], hx, by rw [List.length_drop]; omega, by omega, by rw [List.length_take]; omega, ⟨P, Y.drop (j - i), Y.take (j - i), X ++ S, by simp, by rw [List.length_drop]; omega, by rw [List.length_take]; omega, hm, ?_⟩, ?_⟩
  · rw [show P ++ Y ++ X ++ S = P ++ (Y.take (j - i) ++ Y.drop (j - i)) ++ X ++ S by rw [List.take_append_drop]]; simp
  · simp only [List.length_append] at hl; omega
theorem RotI.last {m i n : Nat} {f T : List Nat} (h : RotI m i i f T) (hl : f.length = n) : ∃ A U V B, f = A ++ U ++ [] ++ V ++ B ∧ U.length = i ∧ V.length = i ∧ A.length = m - i ∧ A.length + i = m ∧ A ++ V ++ [] ++ U ++ B = T ∧ m + i ≤ n := by
  obtain ⟨P, X, Y, S, rfl, hx, hy, hm, rfl⟩ := h
  refine ⟨P, X, Y, S, by simp, hx, hy, by omega, by omega, by simp, ?_⟩
  simp only [List.length_append] at hl; omega
theorem RotI.le {m i j : Nat} {f T : List Nat} (h : RotI m i j f T) : i ≤ m := by
  obtain ⟨P, X, Y, S, rfl, hx, hy, hm, rfl⟩ := h; omega
/-- swapRange, its places given as numbers. -/
theorem swapR_at {cmp : Value} {g n c : Nat} {A U M V B : List Nat} {q : Nat} {x y z : Int} (hu : U.length = q) (hv : V.length = q) (w : World) {f : List Nat} (hf : f = A ++ U ++ M ++ V ++ B) (hd : DAt w g n f) (hn : n ≤ 1000000) (hx : x = (A.length : Nat)) (hy : y = (A.length + q + M.length : Nat)) (hz : z = (q : Nat)) :
    Calls Try.prog 32 #[.slice (some ⟨g, 0, none⟩) n c, .int .i64 x, .int .i64 y, .int .i64 z, cmp] w fun e w' => e = .returned (.tuple #[]) ∧ DAt w' g n (A ++ V ++ M ++ U ++ B) ∧ w.grownBy w' (some g) := by
  subst hf; subst hx; subst hy; subst hz
  exact swapR_any hu hv w hd hn
set_option maxRecDepth 100000 in
set_option maxHeartbeats 4000000 in
theorem rotC_any {cmp : Value} {g n c a m b : Nat} {P X Y S : List Nat} (w : World) (hd : DAt w g n (P ++ X ++ Y ++ S)) (hn : n ≤ 1000000) (ha : a = P.length) (hm : m = a + X.length) (hb : b = m + Y.length) (hx : 0 < X.length) (hy : 0 < Y.length) :
    Calls Try.prog 31 #[.slice (some ⟨g, 0, none⟩) n c, .int .i64 (a : Nat), .int .i64 (m : Nat), .int .i64 (b : Nat), cmp] w fun e w' => e = .returned (.tuple #[]) ∧ DAt w' g n (P ++ Y ++ X ++ S) ∧ w.grownBy w' (some g) := by
  have HN := Lib.hid hn
  have HBN := Lib.hid (show b ≤ n by have := hd.len; simp only [List.length_append] at this; omega)
  obtain ⟨T, hT⟩ : ∃ T, T = P ++ Y ++ X ++ S := ⟨_, rfl⟩
  obtain ⟨f0, hf0⟩ : ∃ T, T = P ++ X ++ Y ++ S := ⟨_, rfl⟩
  obtain ⟨i0, hi0⟩ : ∃ i, i = X.length := ⟨_, rfl⟩
  obtain ⟨j0, hj0⟩ : ∃ i, i = Y.length := ⟨_, rfl⟩
  have HR := Lib.hid (show RotI m i0 j0 f0 T from ⟨P, X, Y, S, hf0, hi0.symm, hj0.symm, by omega, hT⟩)
  rw [← hT]
  rw [← hf0] at hd
  have e1 : m = a + i0 := by omega
  have e2 : b = a + i0 + j0 := by omega
  have h1 : 0 < i0 := by omega
  have h2 : 0 < j0 := by omega
  have HX := Lib.hid hd
  subst e2
  subst e1
  clear hd hn ha hm hb hx hy hT hf0 hi0 hj0 P X Y S
  obtain ⟨m, hm⟩ : ∃ m, m = a + i0 := ⟨_, rfl⟩
  obtain ⟨b, hb⟩ : ∃ b, b = m + j0 := ⟨_, rfl⟩
  rw [← hm] at HR
  have HM := Lib.hid hm
  obtain ⟨w_, hw⟩ : ∃ x, x = w := ⟨_, rfl⟩
  have HB := Lib.hid (show w.grownBy w_ (some g) by rw [hw]; exact World.grownBy.refl _ _)
  rw [← hw] at HX
  suffices H : Calls Try.prog 31 #[.slice (some ⟨g, 0, none⟩) n c, .int .i64 (a : Nat), .int .i64 (m : Nat), .int .i64 (b : Nat), cmp] w_ fun e w' => e = .returned (.tuple #[]) ∧ DAt w' g n T ∧ w.grownBy w' (some g) by rw [hw, hb, hm] at H; exact H
  have v1 : IntKind.i64.wrap ((m : Int) - (a : Int)) = (i0 : Int) := by rw [IntWalk.i64_in _ (by have := HBN.out; have := HN.out; omega)]; omega
  have v2 : IntKind.i64.wrap ((b : Int) - (m : Int)) = (j0 : Int) := by rw [IntWalk.i64_in _ (by have := HBN.out; have := HN.out; omega)]; omega
  have HMN := Lib.hid (show m ≤ n by have := HBN.out; omega)
  clear hw hm hb HBN
  go_enter Try.func31, Try.ntmps31
  go_wp2_with fail
  clear v1 v2
  go_loopw [10, 11] (fun i j wr => ∃ (x y : Nat) (f : List Nat), i = .int .i64 x ∧ j = .int .i64 y ∧ 0 < x ∧ 0 < y ∧ Hid (RotI m x y f T) ∧ Hid (DAt wr g n f) ∧ Hid (w.grownBy wr (some g))) (fun i j _ => (intOf i).toNat + (intOf j).toNat)
  case atStart => exact ⟨i0, j0, f0, rfl, rfl, h1, h2, HR, HX, HB⟩
  case round =>
    obtain ⟨x, y, f, rfl, rfl, hx, hy, hr, hd, hb⟩ := hrel
    clear HX HB HR h1 h2
    have HX := hd; have HB := hb; have HR := hr
    clear hb hd hr
    rename World => w_
    have hle := HR.out.le
    rcases Nat.lt_trichotomy y x with hlt | heq | hgt
    · obtain ⟨A, U, M, V, B, hf, hu, hv, ha, hm, hr, hmn⟩ := HR.out.big hlt HX.out.len
      have z1 : ((x : Int) != (y : Int)) = true := by simp; omega
      have z2 : decide ((y : Int) < (x : Int)) = true := by simp; omega
      have z3 : decide ((x : Int) > (y : Int)) = true := by simp; omega
      have v1 : IntKind.i64.wrap ((m : Int) - (x : Int)) = ((m - x : Nat) : Int) := by rw [IntWalk.i64_in _ (by have := HMN.out; have := HN.out; omega)]; omega
      have v2 : IntKind.i64.wrap ((x : Int) - (y : Int)) = ((x - y : Nat) : Int) := by rw [IntWalk.i64_in _ (by have := HMN.out; have := HN.out; omega)]; omega
      have HS := Lib.hid (fun (w : World) (p q r : Int) (hp : p = (m - x : Nat)) (hq : q = (m : Nat)) (hr : r = (y : Nat)) (hd : DAt w g n f) => swapR_at (cmp := cmp) (c := c) (x := p) (y := q) (z := r) hu hv w hf hd HN.out (by rw [hp, ha]) (by rw [hq, hm]) hr)
      have HR2 := Lib.hid hr
      clear hf hu hv ha hm hr hmn HR
      go_wp2_with fail
      refine (HS.out _ _ _ _ (by rfl) (by rfl) (by rfl) HX.out).mono ?_
      clear HX
      rintro e w2_ ⟨rfl, hd2, hb2⟩
      have HB2 := Lib.hid (gb_trans HB.out hb2)
      have HX2 := Lib.hid hd2
      clear HB hb2 hd2 hle v1 z2 z3 z1
      go_wp2_with fail
      go_roundw
      all_goals clear v2
      case rel => exact ⟨x - y, y, _, by first | rfl | go_num, rfl, by omega, hy, HR2, HX2, HB2⟩
      case measure => simp [intOf]; omega
    · subst heq
      obtain ⟨A, U, V, B, hf, hu, hv, ha, hm, hr, hmn⟩ := HR.out.last HX.out.len
      have v1 : IntKind.i64.wrap ((m : Int) - (y : Int)) = ((m - y : Nat) : Int) := by rw [IntWalk.i64_in _ (by have := HMN.out; have := HN.out; omega)]; omega
      have HS := Lib.hid (fun (w : World) (p q r : Int) (hp : p = (m - y : Nat)) (hq : q = (m : Nat)) (hr : r = (y : Nat)) (hd : DAt w g n f) => swapR_at (cmp := cmp) (c := c) (M := []) (x := p) (y := q) (z := r) hu hv w hf hd HN.out (by rw [hp, ha]) (by rw [hq, List.length_nil, Nat.add_zero, hm]) hr)
      have HR2 := Lib.hid hr
      clear hf hu hv ha hm hr hmn HR
      go_wp2_with fail
      refine (HS.out _ _ _ _ (by rfl) (by rfl) (by rfl) HX.out).mono ?_
      clear HX
      rintro e w2_ ⟨rfl, hd2, hb2⟩
      rw [HR2.out] at hd2
      have HB2 := Lib.hid (gb_trans HB.out hb2)
      have HX2 := Lib.hid hd2
      clear HB hb2 hd2 hle v1
      go_wp2_with fail
      go_end0
      exact ⟨rfl, HX2.out, HB2.out⟩
    · obtain ⟨A, U, M, V, B, hf, hu, hv, ha, hm, hr, hmn⟩ := HR.out.small hgt HX.out.len
      have z1 : ((x : Int) != (y : Int)) = true := by simp; omega
      have z2 : decide ((y : Int) < (x : Int)) = false := by simp; omega
      have z3 : decide ((x : Int) > (y : Int)) = false := by simp; omega
      have v1 : IntKind.i64.wrap ((m : Int) - (x : Int)) = ((m - x : Nat) : Int) := by rw [IntWalk.i64_in _ (by have := HMN.out; have := HN.out; omega)]; omega
      have v3 : IntKind.i64.wrap ((m : Int) + (y : Int)) = ((m + y : Nat) : Int) := by rw [IntWalk.i64_in _ (by have := HMN.out; have := HN.out; omega)]; omega
      have v4 : IntKind.i64.wrap (((m + y : Nat) : Int) - (x : Int)) = ((m + y - x : Nat) : Int) := by rw [IntWalk.i64_in _ (by have := HMN.out; have := HN.out; omega)]; omega
      have v2 : IntKind.i64.wrap ((y : Int) - (x : Int)) = ((y - x : Nat) : Int) := by rw [IntWalk.i64_in _ (by have := HMN.out; have := HN.out; omega)]; omega
      have HS := Lib.hid (fun (w : World) (p q r : Int) (hp : p = (m - x : Nat)) (hq : q = (m + y - x : Nat)) (hr : r = (x : Nat)) (hd : DAt w g n f) => swapR_at (cmp := cmp) (c := c) (x := p) (y := q) (z := r) hu hv w hf hd HN.out (by rw [hp, ha]) (by rw [hq, hm]) hr)
      have HR2 := Lib.hid hr
      clear hf hu hv ha hm hr hmn HR
      obtain ⟨my, hmy⟩ : ∃ z, z = m + y := ⟨_, rfl⟩
      rw [← hmy] at v3 v4
      obtain ⟨mx, hmx⟩ : ∃ z, z = my - x := ⟨_, rfl⟩
      rw [← hmx] at v4
      rw [← hmy, ← hmx] at HS
      clear hmy hmx
      go_wp2_with fail
      refine (HS.out _ _ _ _ (by rfl) (by rfl) (by rfl) HX.out).mono ?_
      clear HX
      rintro e w2_ ⟨rfl, hd2, hb2⟩
      have HB2 := Lib.hid (gb_trans HB.out hb2)
      have HX2 := Lib.hid hd2
      clear HB hb2 hd2 hle v1 z2 z3 z1 v3 v4
      go_wp2_with fail
      go_roundw
      all_goals clear v2
      case rel => exact ⟨x, y - x, _, rfl, by first | rfl | go_num, hx, by omega, HR2, HX2, HB2⟩
      case measure => simp [intOf]; omega
end Go.Proofs.Ytccigmpbcjlogaa

/- Merging in place, in numbers (plain): what symMerge's searches find, and what comes of it. No program in sight. -/
namespace Go.Proofs.Ytccigmpbcjlogaa
set_option linter.unusedVariables false
section
variable {κ : Nat → Int}
def ky (κ : Nat → Int) (l : List Nat) (i : Nat) : Int := κ (l.getD i 0)
theorem getD_mid {P X S : List Nat} {i : Nat} (hi : i < X.length) : (P ++ X ++ S).getD (P.length + i) 0 = X.getD i 0 := by
  rw [List.getD_eq_getElem?_getD, List.getD_eq_getElem?_getD, List.append_assoc, List.getElem?_append_right (by omega), show P.length + i - P.length = i by omega, List.getElem?_append_left hi]
theorem getD_some {l : List Nat} {i : Nat} (hi : i < l.length) : l[i]? = some (l.getD i 0) := by
  rw [List.getD_eq_getElem?_getD, List.getElem?_eq_getElem hi]; rfl
/-- One ahead of a sorted range, put in its place. -/
theorem ins_left {u : Nat} {Y : List Nat} {s : Nat} (hY : Srt κ Y) (hs : s ≤ Y.length) (h1 : s = 0 ∨ ky κ Y (s - 1) < κ u) (h2 : s = Y.length ∨ κ u ≤ ky κ Y s) :
    (Y.take s ++ u :: Y.drop s).Perm ([u] ++ Y) ∧ Srt κ (Y.take s ++ u :: Y.drop s) := by
  refine merged (X := [u]) (Y := Y) (s := 0) (e := s) (by simp [Srt]) hY (fun h => absurd h (by omega)) (fun he _ => ?_) (by simp) (by simp) (srt_take hY s) ?_
  · rcases h1 with h1 | h1
    · omega
    · exact ⟨u, Y.getD (s - 1) 0, rfl, getD_some (by omega), Int.le_of_lt h1⟩
  · refine List.pairwise_cons.2 ⟨fun y hy => ?_, srt_drop hY s⟩
    obtain ⟨i, hi, e⟩ := mem_drop hy
    have hl := (List.getElem?_eq_some_iff.1 e).1
    rcases h2 with h2 | h2
    · omega
    · exact Int.le_trans h2 (srt_le hY (getD_some (by omega)) e hi)
/-- One behind a sorted range, put in its place. -/
theorem ins_right {v : Nat} {X : List Nat} {s : Nat} (hX : Srt κ X) (hs : s ≤ X.length) (h1 : s = 0 ∨ ky κ X (s - 1) ≤ κ v) (h2 : s = X.length ∨ κ v < ky κ X s) :
    (X.take s ++ v :: X.drop s).Perm (X ++ [v]) ∧ Srt κ (X.take s ++ v :: X.drop s) := by
  have e : X.take s ++ v :: X.drop s = (X.take s ++ [v]) ++ X.drop s := by simp
  rw [e]
  refine merged (X := X) (Y := [v]) (s := s) (e := 1) hX (by simp [Srt]) (fun _ h => absurd h (by simp)) (fun _ hl => ?_) (by simp) (by simp) ?_ (srt_drop hX s)
  · rcases h2 with h2 | h2
    · omega
    · exact ⟨X.getD s 0, v, getD_some hl, rfl, Int.le_of_lt h2⟩
  · refine srt_app.2 ⟨srt_take hX s, by simp [Srt], fun x hx y hy => ?_⟩
    rw [List.mem_singleton] at hy; subst hy
    obtain ⟨i, hi, e⟩ := mem_take hx
    have hl := (List.getElem?_eq_some_iff.1 e).1
    rcases h1 with h1 | h1
    · omega
    · exact Int.le_trans (srt_le hX e (getD_some (by omega)) (by omega)) h1
/-- What the third search finds, of two sorted ranges X (at a), Y (at m, up to b): s of X and e of Y go to the left. -/
theorem cut_ok {X Y : List Nat} {a m b mid st r s0 r0 : Nat} (hX : Srt κ X) (hY : Srt κ Y) (hxl : X.length = m - a) (hyl : Y.length = b - m) (ham : a < m) (hmb : m < b) (hmid : mid = (a + b) / 2) (h0 : if mid < m then s0 = mid + m - b ∧ r0 = mid else s0 = a ∧ r0 = m)
    (hst : st = r) (hs : s0 ≤ st) (hr : r ≤ r0) (h1 : st = s0 ∨ ky κ X (st - 1 - a) ≤ ky κ Y (mid + m - st - m)) (h2 : r = r0 ∨ ky κ Y (mid + m - 1 - r - m) < ky κ X (r - a)) :
    a ≤ st ∧ st ≤ m ∧ m ≤ mid + m - st ∧ mid + m - st ≤ b ∧ (0 < st - a → mid + m - st - m < Y.length → ∃ x y, X[st - a - 1]? = some x ∧ Y[mid + m - st - m]? = some y ∧ κ x ≤ κ y) ∧ (0 < mid + m - st - m → st - a < X.length → ∃ x y, X[st - a]? = some x ∧ Y[mid + m - st - m - 1]? = some y ∧ κ y ≤ κ x) := by
  subst hst
  have hb : a ≤ st ∧ st ≤ m ∧ m ≤ mid + m - st ∧ mid + m - st ≤ b := by
    split at h0 <;> omega
  refine ⟨hb.1, hb.2.1, hb.2.2.1, hb.2.2.2, fun p1 p2 => ?_, fun p1 p2 => ?_⟩
  · rcases h1 with h1 | h1
    · split at h0 <;> omega
    · exact ⟨_, _, getD_some (by omega), getD_some p2, by rw [show st - a - 1 = st - 1 - a by omega]; exact h1⟩
  · rcases h2 with h2 | h2
    · split at h0 <;> omega
    · exact ⟨_, _, getD_some p2, getD_some (by omega), Int.le_of_lt (by rw [show mid + m - st - m - 1 = mid + m - 1 - st - m by omega]; exact h2)⟩
end
end Go.Proofs.Ytccigmpbcjlogaa

/- slices.symMergeCmpFunc at floats, where one range has one element. -/
namespace Go.Proofs.Ytccigmpbcjlogaa
open Go.RowKit
set_option linter.unusedVariables false
/-- Falling rates: the key. -/
def kF (x : Nat) : Int := - (keyF x : Int)
theorem cmpK_ltS {x y : Nat} : cmpK x y < 0 ↔ keyF x < keyF y := by unfold cmpK cmpN; (repeat' split) <;> omega
theorem kF_lt {x y : Nat} : kF x < kF y ↔ cmpK y x < 0 := by rw [cmpK_ltS]; unfold kF; omega
theorem wrap64_inS (x : Int) (h : -9223372036854775808 ≤ x ∧ x ≤ 9223372036854775807) : RowKit.wrap64 x = x := by unfold RowKit.wrap64; omega
theorem sort1_any (x y : Nat) (w : World) (hx : x < 2^64) (hy : y < 2^64) : Calls Try.prog 16 #[.float .f64 x, .float .f64 y] w fun e w' => e = .returned (.int .i64 (cmpK y x)) ∧ Below w.heap.size w w' := by
  have HC := Lib.hid (fun w => rcmp_any y x w hy hx)
  go_enter Try.func16, Try.ntmps16
  go_wp2_with fail
  refine (HC.out _).mono ?_
  rintro e w2_ ⟨rfl, hb_⟩
  go_wp2_with fail
  go_ret
  exact ⟨rfl, hb_⟩
/-- One element carried through a range, s places to the right. -/
def shf (P Y S : List Nat) (u s : Nat) : List Nat := P ++ (Y.take s ++ u :: Y.drop s) ++ S
theorem shf_step {P Y S : List Nat} {u s : Nat} (hs : s < Y.length) : xch (shf P Y S u s) (P.length + s) (P.length + s + 1) = shf P Y S u (s + 1) := by
  obtain ⟨y, hy⟩ : ∃ y, Y[s]? = some y := ⟨_, List.getElem?_eq_getElem hs⟩
  have d : Y.drop s = y :: Y.drop (s + 1) := by
    obtain ⟨h, e⟩ := List.getElem?_eq_some_iff.1 hy
    rw [List.drop_eq_getElem_cons h, e]
  have t : Y.take (s + 1) = Y.take s ++ [y] := by rw [List.take_add_one, hy]; rfl
  have e1 : shf P Y S u s = (P ++ Y.take s) ++ u :: ([] ++ y :: (Y.drop (s + 1) ++ S)) := by unfold shf; rw [d]; simp
  have e2 : shf P Y S u (s + 1) = (P ++ Y.take s) ++ y :: ([] ++ u :: (Y.drop (s + 1) ++ S)) := by unfold shf; rw [t]; simp
  have l : (P ++ Y.take s).length = P.length + s := by rw [List.length_append, List.length_take]; omega
  have e3 := xch_mid (P ++ Y.take s) [] (Y.drop (s + 1) ++ S) u y
  rw [l, List.length_nil, Nat.add_zero] at e3
  rw [e1, e2, e3]
theorem shf_len {P Y S : List Nat} {u s : Nat} : (shf P Y S u s).length = P.length + 1 + Y.length + S.length := by
  unfold shf; simp only [List.length_append, List.length_cons, List.length_take, List.length_drop]; omega
abbrev cmpV : Value := .func (.func 16) #[] #[]
set_option maxRecDepth 100000 in
set_option maxHeartbeats 8000000 in
theorem symL_any {g n c a m b : Nat} {P Y S : List Nat} {u : Nat} (w : World) (hd : DAt w g n (P ++ [u] ++ Y ++ S)) (hn : n ≤ 1000000) (ha : a = P.length) (hm : m = a + 1) (hb : b = m + Y.length) (hy : Srt kF Y) (ho : ∀ x ∈ P ++ [u] ++ Y ++ S, x < 2^64) :
    Calls Try.prog 30 #[.slice (some ⟨g, 0, none⟩) n c, .int .i64 (a : Nat), .int .i64 (m : Nat), .int .i64 (b : Nat), cmpV] w fun e w' => e = .returned (.tuple #[]) ∧ ∃ Z, Z.Perm ([u] ++ Y) ∧ Srt kF Z ∧ DAt w' g n (P ++ Z ++ S) ∧ w.grownBy w' (some g) := by
  have HN := Lib.hid hn
  have HBN := Lib.hid (show b ≤ n by have := hd.len; simp only [List.length_append, List.length_singleton] at this; omega)
  have HX := Lib.hid hd
  have HA := Lib.hid ha; have HM := Lib.hid hm; have HBB := Lib.hid hb
  obtain ⟨xs, hxs⟩ : ∃ T, T = P ++ [u] ++ Y ++ S := ⟨_, rfl⟩
  have HXS := Lib.hid hxs
  rw [← hxs] at HX ho
  have HO := Lib.hid ho
  have HYS := Lib.hid hy
  have HAU := Lib.hid (show xs.getD a 0 = u by rw [hxs, ha, List.append_assoc, List.append_assoc, List.getD_eq_getElem?_getD]; simp)
  have HYG := Lib.hid (show ∀ h, m ≤ h → h < b → xs.getD h 0 = Y.getD (h - m) 0 from fun h h1 h2 => by
    rw [hxs]
    have e := getD_mid (P := P ++ [u]) (X := Y) (S := S) (i := h - m) (by omega)
    rw [List.length_append, List.length_singleton, show P.length + 1 + (h - m) = h by omega] at e
    exact e)
  clear hd hn hm hb hy hxs
  obtain ⟨w_, hw⟩ : ∃ x, x = w := ⟨_, rfl⟩
  have HB := Lib.hid (show w.grownBy w_ (some g) by rw [hw]; exact World.grownBy.refl _ _)
  rw [← hw] at HX
  suffices H : Calls Try.prog 30 #[.slice (some ⟨g, 0, none⟩) n c, .int .i64 (a : Nat), .int .i64 (m : Nat), .int .i64 (b : Nat), cmpV] w_ fun e w' => e = .returned (.tuple #[]) ∧ ∃ Z, Z.Perm ([u] ++ Y) ∧ Srt kF Z ∧ DAt w' g n (P ++ Z ++ S) ∧ w.grownBy w' (some g) by rw [hw] at H; exact H
  have v0 : IntKind.i64.wrap ((m : Int) - (a : Int)) = 1 := by rw [IntWalk.i64_in _ (by have := HM.out; have := HBN.out; have := HN.out; omega)]; have := HM.out; omega
  clear hw ha ho
  have HAN := Lib.hid (show a < n by have := HM.out; have := HBB.out; have := HBN.out; omega)
  go_enter Try.func30, Try.ntmps30
  go_wp2_with fail
  clear v0
  go_loopw [10, 11] (fun s10 s11 wr => ∃ (i j : Nat), s10 = .int .i64 i ∧ s11 = .int .i64 j ∧ m ≤ i ∧ i ≤ j ∧ j ≤ b ∧ Hid ((i = m ∨ ky kF Y (i - 1 - m) < kF u) ∧ (j = b ∨ kF u ≤ ky kF Y (j - m))) ∧ Hid (DAt wr g n xs) ∧ Hid (w.grownBy wr (some g))) (fun s10 s11 _ => (intOf s11).toNat - (intOf s10).toNat)
  case atStart => exact ⟨m, b, rfl, rfl, Nat.le_refl _, by have := HBB.out; omega, Nat.le_refl _, Lib.hid ⟨.inl rfl, .inl rfl⟩, HX, HB⟩
  case round =>
    obtain ⟨i, j, rfl, rfl, h1, h2, h3, hs, hd, hb⟩ := hrel
    clear HX HB
    have HX := hd; have HB := hb; have HS := hs
    clear hb hd hs
    rename World => w_
    by_cases hlt : i < j
    · obtain ⟨ij, hij⟩ : ∃ z, z = i + j := ⟨_, rfl⟩
      obtain ⟨h, hh⟩ : ∃ z, z = (i + j) / 2 := ⟨_, rfl⟩
      have v1 : IntKind.i64.wrap ((i : Int) + (j : Int)) = (ij : Int) := by rw [IntWalk.i64_in _ (by have := HBN.out; have := HN.out; omega)]; omega
      have hm1 : m ≤ h := by omega
      have hm2 : h < b := by omega
      have HIJ := Lib.hid hij; have HH := Lib.hid hh
      clear hij hh
      have v2 : IntKind.u64.wrap (ij : Int) = (ij : Int) := by rw [IntKind.wrap_u64]; have := HIJ.out; have := HBN.out; have := HN.out; omega
      have v3 : RowKit.wrap64 ((ij : Int) / 2) = (h : Int) := by rw [wrap64_inS _ (by have := HIJ.out; have := HBN.out; have := HN.out; omega)]; have := HIJ.out; have := HH.out; omega
      have hA : a < n := HAN.out
      have hB : h < n := by have := HBN.out; omega
      obtain ⟨x, hx⟩ : ∃ z, z = xs.getD h 0 := ⟨_, rfl⟩
      have HXY := Lib.hid (show ky kF Y (h - m) = kF x by unfold ky; rw [← HYG.out h hm1 hm2, hx])
      have ox : x < 2^64 := HO.out x (by rw [hx, List.getD_eq_getElem?_getD, List.getElem?_eq_getElem (by rw [HX.out.len]; exact hB)]; exact List.getElem_mem _)
      have ou : u < 2^64 := HO.out u (by rw [HXS.out]; simp)
      have HC := Lib.hid (fun w => sort1_any x u w ox ou)
      have HZ := Lib.hid (@kF_lt x u)
      obtain ⟨z, hz⟩ : ∃ z, z = cmpK u x := ⟨_, rfl⟩
      rw [← hz] at HC HZ
      have HXE := Lib.hid hx
      clear hx hz ox ou
      try go_wp2_with fail
      repeat' (first | (with_reducible refine wp_plan (id := 5) Grow [0,0,0,0,2,0,0,0,2,3,0] (.get 0 (.get 1 (.get 2 (.get 3 (.get 4 (.get 5 (.get 6 (.get 7 (.get 8 (.act 9 (.get 10 .done))))))))))) (by kernel_rfl) (by kernel_rfl) Grow.refl Grow.trans ?_) | go_values | go_skip | go_guarded | go_step | go_upon | go_back)
      intro w_ hd_
      have hb_ := hd_.grow
      have HB_ := Lib.hid (HB.out.grow' hb_)
      clear HB
      have HB := HB_
      clear HB_
      have HX_ := Lib.hid (HX.out.grow hb_)
      clear HX
      have HX := HX_
      clear HX_
      clear hb_ hd_
      have ch : w_.cell? ⟨g, h, none⟩ = some (.float .f64 x) := by rw [HXE.out]; exact HX.out.cell hB
      have ca : w_.cell? ⟨g, a, none⟩ = some (.float .f64 u) := by rw [← HAU.out]; exact HX.out.cell hA
      repeat (first | (refine pl_calm rfl rfl (by first | exact wanted_none rfl | (go_simp; done) | rfl) (fun w_ => by first | (go_simp; rfl) | (go_simp; done) | rfl) (fun K hK => ?_); go_simp; refine hK _ _ ?_; clear hK K) | (refine pl_skip rfl (by first | (go_simp; done) | rfl) (fun K hK => ?_); go_simp; refine hK _ _ ?_; clear hK K) | (refine pl_skipa rfl (by first | (go_simp; done) | rfl) (fun K hK => ?_); go_simp; refine hK _ _ ?_; clear hK K) | (refine pl_load rfl rfl (by first | exact wanted_none rfl | (go_simp; done) | rfl) rfl (by first | rfl | (go_simp; rfl)) (by kernel_rfl) (by first | exact ch | exact ca) (fun K hK => ?_); go_simp; refine hK _ _ ?_; clear hK K) | (refine pl_loadnow rfl rfl (by first | exact wanted_none rfl | (go_simp; done) | rfl) rfl (by first | rfl | (go_simp; rfl)) (by kernel_rfl) (by first | exact ch | exact ca) (fun K hK => ?_); go_simp; refine hK _ _ ?_; clear hK K))
      refine pl_act rfl (by first | exact wanted_none rfl | (go_simp; done) | rfl) (fun K hK => ?_)
      go_wp2_with fail
      refine (HC.out _).mono ?_
      rintro e w_ ⟨rfl, hb_⟩
      go_wp2_with fail
      refine hK _ _ (fun _ => hb_) ?_
      clear hK K
      have HB_ := Lib.hid (HB.out.grow' hb_)
      clear HB
      have HB := HB_
      clear HB_
      have HX_ := Lib.hid (HX.out.grow hb_)
      clear HX
      have HX := HX_
      clear HX_
      clear hb_
      repeat (first | (refine pl_calm rfl rfl (by first | exact wanted_none rfl | (go_simp; done) | rfl) (fun w_ => by first | (go_simp; rfl) | (go_simp; done) | rfl) (fun K hK => ?_); go_simp; refine hK _ _ ?_; clear hK K) | (refine pl_skip rfl (by first | (go_simp; done) | rfl) (fun K hK => ?_); go_simp; refine hK _ _ ?_; clear hK K) | (refine pl_skipa rfl (by first | (go_simp; done) | rfl) (fun K hK => ?_); go_simp; refine hK _ _ ?_; clear hK K))
      refine pl_done ?_
      clear ch ca HC v1 v2 v3 hA hB
      by_cases hz0 : z < 0
      · have HZ2 := Lib.hid (HZ.out.2 hz0)
        have q1 : IntKind.i64.wrap ((h : Int) + 1) = (h : Int) + 1 := IntWalk.i64_in _ (by have := HBN.out; have := HN.out; omega)
        clear HZ
        go_wp2_with fail
        go_roundw
        all_goals clear q1
        case rel => exact ⟨h + 1, j, by go_num, rfl, by omega, by have := HH.out; omega, h3, Lib.hid ⟨.inr (by rw [show h + 1 - 1 - m = h - m by omega, HXY.out]; exact HZ2.out), HS.out.2⟩, HX, HB⟩
        case measure => have := HH.out; simp [intOf]; omega
      · have HZ2 := Lib.hid (show kF u ≤ kF x from Int.not_lt.1 (fun h => hz0 (HZ.out.1 h)))
        have hz1 : 0 ≤ z := by omega
        clear HZ hz0
        go_wp2_with fail
        go_roundw
        case rel => exact ⟨i, h, rfl, rfl, h1, by have := HH.out; omega, by omega, Lib.hid ⟨HS.out.1, .inr (by rw [HXY.out]; exact HZ2.out)⟩, HX, HB⟩
        case measure => have := HH.out; simp [intOf]; omega
    · obtain rfl : i = j := by omega
      have HI := Lib.hid (ins_left (u := u) (s := i - m) HYS.out (by have := HBB.out; omega) (by rcases HS.out.1 with h | h; exact .inl (by omega); exact .inr (by rw [show i - m - 1 = i - 1 - m by omega]; exact h)) (by rcases HS.out.2 with h | h; exact .inl (by have := HBB.out; omega); exact .inr h))
      have e0 : shf P Y S u 0 = xs := by rw [HXS.out]; unfold shf; simp
      have HX2 := Lib.hid (show DAt w_ g n (shf P Y S u 0) by rw [e0]; exact HX.out)
      clear e0
      have HST := Lib.hid (fun k (h1 : a ≤ k) (h2 : k + 1 < i) => show xch (shf P Y S u (k - a)) k (k + 1) = shf P Y S u (k + 1 - a) by
        have h := shf_step (P := P) (S := S) (u := u) (s := k - a) (Y := Y) (by have := HM.out; have := HBB.out; omega)
        rw [← HA.out, show a + (k - a) = k by omega, show k - a + 1 = k + 1 - a by omega] at h
        exact h)
      have HFIN := Lib.hid (show shf P Y S u (i - 1 - a) = P ++ (Y.take (i - m) ++ u :: Y.drop (i - m)) ++ S by rw [show i - 1 - a = i - m by have := HM.out; omega]; rfl)
      have HMA := Lib.hid (show m = a + 1 from HM.out)
      have HIB := Lib.hid (show i ≤ n by have := HBN.out; omega)
      clear HX HS HXS HAU HYG HO
      obtain ⟨f, hf⟩ : ∃ f, f = fun k => shf P Y S u (k - a) := ⟨_, rfl⟩
      have HX := Lib.hid (show DAt w_ g n (f a) by rw [hf]; simp only [Nat.sub_self]; exact HX2.out)
      have HST2 := Lib.hid (show ∀ k, a ≤ k → k + 1 < i → xch (f k) k (k + 1) = f (k + 1) by rw [hf]; exact HST.out)
      have HF := Lib.hid (show f (i - 1) = P ++ (Y.take (i - m) ++ u :: Y.drop (i - m)) ++ S by rw [hf]; exact HFIN.out)
      clear hf HX2 HST HFIN
      clear hlt h2
      obtain ⟨ip, hip⟩ : ∃ z, z = i - 1 := ⟨_, rfl⟩
      have v1 : IntKind.i64.wrap ((i : Int) - 1) = (ip : Int) := by rw [IntWalk.i64_in _ (by have := HIB.out; have := HN.out; omega)]; have := HMA.out; omega
      have hap : a ≤ ip := by have := HMA.out; omega
      have HIP := Lib.hid (show ip + 1 = i by have := HMA.out; omega)
      rw [← hip] at HF
      clear hip h1 h3
      go_wp2_with fail
      go_loopw [13] (fun s13 wr => ∃ k : Nat, s13 = .int .i64 k ∧ a ≤ k ∧ k ≤ ip ∧ Hid (DAt wr g n (f k)) ∧ Hid (w.grownBy wr (some g))) (fun s13 _ => ip - (intOf s13).toNat)
      case atStart => exact ⟨a, rfl, Nat.le_refl _, hap, HX, HB⟩
      case round =>
        obtain ⟨k, rfl, hk1, hk2, hd, hb⟩ := hrel
        clear HX HB
        have HX := hd; have HB := hb
        clear hb hd
        rename World => w_
        by_cases hlt : k < ip
        · obtain ⟨k1, hk1'⟩ : ∃ z, z = k + 1 := ⟨_, rfl⟩
          have v2 : IntKind.i64.wrap ((k : Int) + 1) = (k1 : Int) := by rw [hk1', IntWalk.i64_in _ (by have := HIP.out; have := HIB.out; have := HN.out; omega)]; omega
          have hA : k < n := by have := HIP.out; have := HIB.out; omega
          have hB : k1 < n := by have := HIP.out; have := HIB.out; omega
          have HE := Lib.hid (HST2.out k hk1 (by have := HIP.out; omega))
          have HK1 := Lib.hid hk1'
          rw [← hk1'] at HE
          have HL := Lib.hid HX.out.len
          obtain ⟨xs, hxs⟩ : ∃ z, z = f k := ⟨_, rfl⟩
          rw [← hxs] at HX HE HL
          clear hxs hk1'
          obtain ⟨x, hx⟩ : ∃ z, z = xs.getD k 0 := ⟨_, rfl⟩
          obtain ⟨y, hy⟩ : ∃ z, z = xs.getD k1 0 := ⟨_, rfl⟩
          have HXE := Lib.hid hx; have HYE := Lib.hid hy
          try go_wp2_with fail
          repeat' (first | (with_reducible refine wp_plan (id := 11) Grow [0,0,0,0,0,0,0,0,0,2,0,0,0,2,0,3,0,3] (.get 0 (.get 1 (.get 2 (.get 3 (.get 4 (.get 5 (.get 6 (.get 7 (.get 8 (.get 9 (.get 10 (.get 11 (.get 12 (.get 13 (.get 14 (.act 15 (.get 16 (.act 17 .done)))))))))))))))))) (by kernel_rfl) (by kernel_rfl) Grow.refl Grow.trans ?_) | go_values | go_skip | go_guarded | go_step | go_upon | go_back)
          intro w_ hd_
          have hb_ := hd_.grow
          have HB_ := Lib.hid (HB.out.grow' hb_)
          clear HB
          have HB := HB_
          clear HB_
          have HX_ := Lib.hid (HX.out.grow hb_)
          clear HX
          have HX := HX_
          clear HX_
          clear hb_ hd_
          have ca : w_.cell? ⟨g, k, none⟩ = some (.float .f64 x) := by rw [hx]; exact HX.out.cell hA
          have cb : w_.cell? ⟨g, k1, none⟩ = some (.float .f64 y) := by rw [hy]; exact HX.out.cell hB
          clear hx hy
          repeat (first | (refine pl_calm rfl rfl (by first | exact wanted_none rfl | (go_simp; done) | rfl) (fun w_ => by first | (go_simp; rfl) | (go_simp; done) | rfl) (fun K hK => ?_); go_simp; refine hK _ _ ?_; clear hK K) | (refine pl_skip rfl (by first | (go_simp; done) | rfl) (fun K hK => ?_); go_simp; refine hK _ _ ?_; clear hK K) | (refine pl_skipa rfl (by first | (go_simp; done) | rfl) (fun K hK => ?_); go_simp; refine hK _ _ ?_; clear hK K) | (refine pl_load rfl rfl (by first | exact wanted_none rfl | (go_simp; done) | rfl) rfl (by first | rfl | (go_simp; rfl)) (by kernel_rfl) (by first | exact ca | exact cb) (fun K hK => ?_); go_simp; refine hK _ _ ?_; clear hK K) | (refine pl_loadnow rfl rfl (by first | exact wanted_none rfl | (go_simp; done) | rfl) rfl (by first | rfl | (go_simp; rfl)) (by kernel_rfl) (by first | exact ca | exact cb) (fun K hK => ?_); go_simp; refine hK _ _ ?_; clear hK K))
          refine pl_act rfl (by exact wanted_none rfl) (fun K hK => ?_)
          show wpList _ _ _ [⟨none, .store _ _ _, _, _, _, _⟩] _ _
          obtain ⟨T, hT⟩ := HX.out.tail
          have HT := Lib.hid hT
          clear hT
          have hl1 : k < (xs.map Fv ++ T).length := by rw [List.length_append, List.length_map, HL.out]; exact Nat.lt_add_right _ hA
          go_wp2_with (first | (refine wpl_store1 (o := ⟨none, .store _ _ _, _, _, _, _⟩) rfl rfl HT.out rfl rfl (by kernel_rfl) rfl rfl hl1 ?_))
          intro w2_ hb2_ hg2_ hsz2_
          clear hl1
          go_wp2_with fail
          refine hK _ _ (fun h => absurd h (by decide)) ?_
          clear hK K
          have HB2 := Lib.hid (gb_trans HB.out hg2_)
          have HX2 := Lib.hid hb2_
          clear HX HB hb2_ hg2_ hsz2_ ca cb
          repeat (first | (refine pl_calm rfl rfl (by first | exact wanted_none rfl | (go_simp; done) | rfl) (fun w_ => by first | (go_simp; rfl) | (go_simp; done) | rfl) (fun K hK => ?_); go_simp; refine hK _ _ ?_; clear hK K) | (refine pl_skip rfl (by first | (go_simp; done) | rfl) (fun K hK => ?_); go_simp; refine hK _ _ ?_; clear hK K) | (refine pl_skipa rfl (by first | (go_simp; done) | rfl) (fun K hK => ?_); go_simp; refine hK _ _ ?_; clear hK K))
          refine pl_act rfl (by exact wanted_none rfl) (fun K hK => ?_)
          show wpList _ _ _ [⟨none, .store _ _ _, _, _, _, _⟩] _ _
          have hl1 : k1 < ((xs.map Fv ++ T).set k (Fv y)).length := by rw [List.length_set, List.length_append, List.length_map, HL.out]; exact Nat.lt_add_right _ hB
          go_wp2_with (first | (refine wpl_store1 (o := ⟨none, .store _ _ _, _, _, _, _⟩) rfl rfl HX2.out rfl rfl (by kernel_rfl) rfl rfl hl1 ?_))
          intro w3_ hb2_ hg2_ hsz2_
          clear hl1
          go_wp2_with fail
          refine hK _ _ (fun h => absurd h (by decide)) ?_
          clear hK K
          have HB3 := Lib.hid (gb_trans HB2.out hg2_)
          have HX3 := Lib.hid (show DAt w3_ g n (f k1) by rw [HK1.out, ← HK1.out, ← HE.out]; rw [HXE.out, HYE.out] at hb2_; exact DAt.set2 hb2_ HL.out hA hB)
          clear HX2 HB2 hb2_ hg2_ hsz2_
          refine pl_done ?_
          go_wp2_with fail
          go_roundw
          all_goals clear v1 v2
          case rel => exact ⟨k1, by first | rfl | go_num, by have := HK1.out; omega, by have := HK1.out; omega, HX3, HB3⟩
          case measure => have := HK1.out; simp [intOf]; omega
        · obtain rfl : k = ip := by omega
          rw [HF.out] at HX
          go_wp2_with fail
          refine bodyPost_ret (results_none rfl _ _ _) rfl ?_
          exact ⟨rfl, _, HI.out.1, HI.out.2, HX.out, HB.out⟩
end Go.Proofs.Ytccigmpbcjlogaa

/- slices.symMergeCmpFunc at floats, where the second range has one element. -/
namespace Go.Proofs.Ytccigmpbcjlogaa
open Go.RowKit
set_option linter.unusedVariables false
theorem xch_comm {l : List Nat} {i j : Nat} (h : i ≠ j) : xch l i j = xch l j i := by unfold xch; rw [List.set_comm _ _ h]
theorem shf_back {P Y S : List Nat} {u s : Nat} (hs : s < Y.length) : xch (shf P Y S u (s + 1)) (P.length + s + 1) (P.length + s) = shf P Y S u s := by
  obtain ⟨y, hy⟩ : ∃ y, Y[s]? = some y := ⟨_, List.getElem?_eq_getElem hs⟩
  have d : Y.drop s = y :: Y.drop (s + 1) := by
    obtain ⟨h, e⟩ := List.getElem?_eq_some_iff.1 hy
    rw [List.drop_eq_getElem_cons h, e]
  have t : Y.take (s + 1) = Y.take s ++ [y] := by rw [List.take_add_one, hy]; rfl
  have e1 : shf P Y S u s = (P ++ Y.take s) ++ u :: ([] ++ y :: (Y.drop (s + 1) ++ S)) := by unfold shf; rw [d]; simp
  have e2 : shf P Y S u (s + 1) = (P ++ Y.take s) ++ y :: ([] ++ u :: (Y.drop (s + 1) ++ S)) := by unfold shf; rw [t]; simp
  have l : (P ++ Y.take s).length = P.length + s := by rw [List.length_append, List.length_take]; omega
  have e3 := xch_mid (P ++ Y.take s) [] (Y.drop (s + 1) ++ S) y u
  rw [l, List.length_nil, Nat.add_zero] at e3
  rw [xch_comm (by omega), e1, e2, e3]
set_option maxRecDepth 100000 in
set_option maxHeartbeats 8000000 in
theorem symR_any {g n c a m b : Nat} {P X S : List Nat} {v : Nat} (w : World) (hd : DAt w g n (P ++ X ++ [v] ++ S)) (hn : n ≤ 1000000) (ha : a = P.length) (hm : m = a + X.length) (hb : b = m + 1) (hx1 : X.length ≠ 1) (hx : Srt kF X) (ho : ∀ x ∈ P ++ X ++ [v] ++ S, x < 2^64) :
    Calls Try.prog 30 #[.slice (some ⟨g, 0, none⟩) n c, .int .i64 (a : Nat), .int .i64 (m : Nat), .int .i64 (b : Nat), cmpV] w fun e w' => e = .returned (.tuple #[]) ∧ ∃ Z, Z.Perm (X ++ [v]) ∧ Srt kF Z ∧ DAt w' g n (P ++ Z ++ S) ∧ w.grownBy w' (some g) := by
  have HN := Lib.hid hn
  have HBN := Lib.hid (show b ≤ n by have := hd.len; simp only [List.length_append, List.length_singleton] at this; omega)
  have HX := Lib.hid hd
  have HA := Lib.hid ha; have HM := Lib.hid hm; have HBB := Lib.hid hb; have HX1 := Lib.hid hx1
  obtain ⟨xs, hxs⟩ : ∃ T, T = P ++ X ++ [v] ++ S := ⟨_, rfl⟩
  have HXS := Lib.hid hxs
  rw [← hxs] at HX ho
  have HO := Lib.hid ho
  have HYS := Lib.hid hx
  have HAU := Lib.hid (show xs.getD m 0 = v by rw [hxs, hm, ha, List.append_assoc, List.getD_eq_getElem?_getD, List.getElem?_append_right (by simp)]; simp)
  have HYG := Lib.hid (show ∀ h, a ≤ h → h < m → xs.getD h 0 = X.getD (h - a) 0 from fun h h1 h2 => by
    rw [hxs, List.append_assoc (P ++ X)]
    have e := getD_mid (P := P) (X := X) (S := [v] ++ S) (i := h - a) (by omega)
    rw [show P.length + (h - a) = h by omega] at e
    exact e)
  clear hd hn hm hb hx hxs hx1
  obtain ⟨w_, hw⟩ : ∃ x, x = w := ⟨_, rfl⟩
  have HB := Lib.hid (show w.grownBy w_ (some g) by rw [hw]; exact World.grownBy.refl _ _)
  rw [← hw] at HX
  suffices H : Calls Try.prog 30 #[.slice (some ⟨g, 0, none⟩) n c, .int .i64 (a : Nat), .int .i64 (m : Nat), .int .i64 (b : Nat), cmpV] w_ fun e w' => e = .returned (.tuple #[]) ∧ ∃ Z, Z.Perm (X ++ [v]) ∧ Srt kF Z ∧ DAt w' g n (P ++ Z ++ S) ∧ w.grownBy w' (some g) by rw [hw] at H; exact H
  obtain ⟨xl, hxl⟩ : ∃ z, z = X.length := ⟨_, rfl⟩
  have HXL := Lib.hid hxl
  have v0 : IntKind.i64.wrap ((m : Int) - (a : Int)) = (xl : Int) := by rw [IntWalk.i64_in _ (by have := HM.out; have := HBB.out; have := HBN.out; have := HN.out; omega)]; have := HM.out; omega
  have z0 : ((xl : Int) == 1) = false := by have := HX1.out; simp; omega
  have v00 : IntKind.i64.wrap ((b : Int) - (m : Int)) = 1 := by rw [IntWalk.i64_in _ (by have := HM.out; have := HBB.out; have := HBN.out; have := HN.out; omega)]; have := HBB.out; omega
  clear hw ha ho hxl
  have HMN := Lib.hid (show m < n by have := HBB.out; have := HBN.out; omega)
  have HAM := Lib.hid (show a ≤ m by have := HM.out; omega)
  go_enter Try.func30, Try.ntmps30
  go_wp2_with fail
  clear v0 z0 v00
  go_loopw [14, 15] (fun s14 s15 wr => ∃ (i j : Nat), s14 = .int .i64 i ∧ s15 = .int .i64 j ∧ a ≤ i ∧ i ≤ j ∧ j ≤ m ∧ Hid ((i = a ∨ ky kF X (i - 1 - a) ≤ kF v) ∧ (j = m ∨ kF v < ky kF X (j - a))) ∧ Hid (DAt wr g n xs) ∧ Hid (w.grownBy wr (some g))) (fun s14 s15 _ => (intOf s15).toNat - (intOf s14).toNat)
  case atStart => exact ⟨a, m, rfl, rfl, Nat.le_refl _, HAM.out, Nat.le_refl _, Lib.hid ⟨.inl rfl, .inl rfl⟩, HX, HB⟩
  case round =>
    obtain ⟨i, j, rfl, rfl, h1, h2, h3, hs, hd, hb⟩ := hrel
    clear HX HB
    have HX := hd; have HB := hb; have HS := hs
    clear hb hd hs
    rename World => w_
    by_cases hlt : i < j
    · obtain ⟨ij, hij⟩ : ∃ z, z = i + j := ⟨_, rfl⟩
      obtain ⟨h, hh⟩ : ∃ z, z = (i + j) / 2 := ⟨_, rfl⟩
      have v1 : IntKind.i64.wrap ((i : Int) + (j : Int)) = (ij : Int) := by rw [IntWalk.i64_in _ (by have := HMN.out; have := HN.out; omega)]; omega
      have hm1 : a ≤ h := by omega
      have hm2 : h < m := by omega
      have HIJ := Lib.hid hij; have HH := Lib.hid hh
      clear hij hh
      have v2 : IntKind.u64.wrap (ij : Int) = (ij : Int) := by rw [IntKind.wrap_u64]; have := HIJ.out; have := HMN.out; have := HN.out; omega
      have v3 : RowKit.wrap64 ((ij : Int) / 2) = (h : Int) := by rw [wrap64_inS _ (by have := HIJ.out; have := HMN.out; have := HN.out; omega)]; have := HIJ.out; have := HH.out; omega
      have hA : m < n := HMN.out
      have hB : h < n := by have := HMN.out; omega
      obtain ⟨x, hx⟩ : ∃ z, z = xs.getD h 0 := ⟨_, rfl⟩
      have HXY := Lib.hid (show ky kF X (h - a) = kF x by unfold ky; rw [← HYG.out h hm1 hm2, hx])
      have ox : x < 2^64 := HO.out x (by rw [hx, List.getD_eq_getElem?_getD, List.getElem?_eq_getElem (by rw [HX.out.len]; exact hB)]; exact List.getElem_mem _)
      have ou : v < 2^64 := HO.out v (by rw [HXS.out]; simp)
      have HC := Lib.hid (fun w => sort1_any v x w ou ox)
      have HZ := Lib.hid (@kF_lt v x)
      obtain ⟨z, hz⟩ : ∃ z, z = cmpK x v := ⟨_, rfl⟩
      rw [← hz] at HC HZ
      have HXE := Lib.hid hx
      clear hx hz ox ou
      try go_wp2_with fail
      repeat' (first | (with_reducible refine wp_plan (id := 17) Grow [0,0,0,0,2,0,0,0,2,3,0,0] (.get 0 (.get 1 (.get 2 (.get 3 (.get 4 (.get 5 (.get 6 (.get 7 (.get 8 (.act 9 (.get 10 (.get 11 .done)))))))))))) (by kernel_rfl) (by kernel_rfl) Grow.refl Grow.trans ?_) | go_values | go_skip | go_guarded | go_step | go_upon | go_back)
      intro w_ hd_
      have hb_ := hd_.grow
      have HB_ := Lib.hid (HB.out.grow' hb_)
      clear HB
      have HB := HB_
      clear HB_
      have HX_ := Lib.hid (HX.out.grow hb_)
      clear HX
      have HX := HX_
      clear HX_
      clear hb_ hd_
      have ch : w_.cell? ⟨g, h, none⟩ = some (.float .f64 x) := by rw [HXE.out]; exact HX.out.cell hB
      have ca : w_.cell? ⟨g, m, none⟩ = some (.float .f64 v) := by rw [← HAU.out]; exact HX.out.cell hA
      repeat (first | (refine pl_calm rfl rfl (by first | exact wanted_none rfl | (go_simp; done) | rfl) (fun w_ => by first | (go_simp; rfl) | (go_simp; done) | rfl) (fun K hK => ?_); go_simp; refine hK _ _ ?_; clear hK K) | (refine pl_skip rfl (by first | (go_simp; done) | rfl) (fun K hK => ?_); go_simp; refine hK _ _ ?_; clear hK K) | (refine pl_skipa rfl (by first | (go_simp; done) | rfl) (fun K hK => ?_); go_simp; refine hK _ _ ?_; clear hK K) | (refine pl_load rfl rfl (by first | exact wanted_none rfl | (go_simp; done) | rfl) rfl (by first | rfl | (go_simp; rfl)) (by kernel_rfl) (by first | exact ch | exact ca) (fun K hK => ?_); go_simp; refine hK _ _ ?_; clear hK K) | (refine pl_loadnow rfl rfl (by first | exact wanted_none rfl | (go_simp; done) | rfl) rfl (by first | rfl | (go_simp; rfl)) (by kernel_rfl) (by first | exact ch | exact ca) (fun K hK => ?_); go_simp; refine hK _ _ ?_; clear hK K))
      refine pl_act rfl (by first | exact wanted_none rfl | (go_simp; done) | rfl) (fun K hK => ?_)
      go_wp2_with fail
      refine (HC.out _).mono ?_
      rintro e w_ ⟨rfl, hb_⟩
      go_wp2_with fail
      refine hK _ _ (fun _ => hb_) ?_
      clear hK K
      have HB_ := Lib.hid (HB.out.grow' hb_)
      clear HB
      have HB := HB_
      clear HB_
      have HX_ := Lib.hid (HX.out.grow hb_)
      clear HX
      have HX := HX_
      clear HX_
      clear hb_
      obtain ⟨lt, hlt'⟩ : ∃ q, q = decide (z < 0) := ⟨_, rfl⟩
      have zlt : ((z : Int) < 0) = (lt = true) := by rw [hlt']; simp
      have HLT := Lib.hid hlt'
      clear hlt'
      repeat (first | (refine pl_calm rfl rfl (by first | exact wanted_none rfl | (go_simp; done) | rfl) (fun w_ => by first | (go_simp; rfl) | (go_simp; done) | rfl) (fun K hK => ?_); go_simp; refine hK _ _ ?_; clear hK K) | (refine pl_skip rfl (by first | (go_simp; done) | rfl) (fun K hK => ?_); go_simp; refine hK _ _ ?_; clear hK K) | (refine pl_skipa rfl (by first | (go_simp; done) | rfl) (fun K hK => ?_); go_simp; refine hK _ _ ?_; clear hK K))
      refine pl_done ?_
      clear ch ca HC v1 v2 v3 hA hB
      clear zlt
      cases lt
      rotate_left
      · have hz0 : z < 0 := of_decide_eq_true HLT.out.symm
        have HZ2 := Lib.hid (HZ.out.2 hz0)
        clear HZ hz0 HLT
        go_wp2_with fail
        go_roundw
        case rel => exact ⟨i, h, rfl, rfl, h1, by have := HH.out; omega, by omega, Lib.hid ⟨HS.out.1, .inr (by rw [HXY.out]; exact HZ2.out)⟩, HX, HB⟩
        case measure => have := HH.out; simp [intOf]; omega
      · have hz0 : ¬ z < 0 := of_decide_eq_false HLT.out.symm
        have HZ2 := Lib.hid (show kF x ≤ kF v from Int.not_lt.1 (fun h => hz0 (HZ.out.1 h)))
        have q1 : IntKind.i64.wrap ((h : Int) + 1) = (h : Int) + 1 := IntWalk.i64_in _ (by have := HMN.out; have := HN.out; omega)
        clear HZ hz0 HLT
        go_wp2_with fail
        go_roundw
        all_goals clear q1
        case rel => exact ⟨h + 1, j, by go_num, rfl, by omega, by have := HH.out; omega, h3, Lib.hid ⟨.inr (by rw [show h + 1 - 1 - a = h - a by omega, HXY.out]; exact HZ2.out), HS.out.2⟩, HX, HB⟩
        case measure => have := HH.out; simp [intOf]; omega
    · obtain rfl : i = j := by omega
      have HI := Lib.hid (ins_right (v := v) (s := i - a) HYS.out (by have := HM.out; omega) (by rcases HS.out.1 with h | h; exact .inl (by omega); exact .inr (by rw [show i - a - 1 = i - 1 - a by omega]; exact h)) (by rcases HS.out.2 with h | h; exact .inl (by have := HM.out; omega); exact .inr h))
      have e0 : shf P X S v X.length = xs := by rw [HXS.out]; unfold shf; simp
      have HX2 := Lib.hid (show DAt w_ g n (shf P X S v (m - a)) by rw [show m - a = X.length by have := HM.out; omega, e0]; exact HX.out)
      clear e0
      have HST := Lib.hid (fun k (h1 : a ≤ k) (h2 : k < m) => show xch (shf P X S v (k + 1 - a)) (k + 1) k = shf P X S v (k - a) by
        have h := shf_back (P := P) (S := S) (u := v) (s := k - a) (Y := X) (by have := HM.out; omega)
        rw [← HA.out, show a + (k - a) = k by omega, show k - a + 1 = k + 1 - a by omega] at h
        exact h)
      clear HX HS HXS HAU HYG HO
      obtain ⟨f, hf⟩ : ∃ f, f = fun k => shf P X S v (k - a) := ⟨_, rfl⟩
      have HX := Lib.hid (show DAt w_ g n (f m) by rw [hf]; exact HX2.out)
      have HST2 := Lib.hid (show ∀ k, a ≤ k → k < m → xch (f (k + 1)) (k + 1) k = f k by rw [hf]; exact HST.out)
      have HF := Lib.hid (show f i = P ++ (X.take (i - a) ++ v :: X.drop (i - a)) ++ S by rw [hf]; rfl)
      clear hf HX2 HST
      clear hlt h2
      go_wp2_with fail
      go_loopw [17] (fun s17 wr => ∃ k : Nat, s17 = .int .i64 k ∧ i ≤ k ∧ k ≤ m ∧ Hid (DAt wr g n (f k)) ∧ Hid (w.grownBy wr (some g))) (fun s17 _ => (intOf s17).toNat - i)
      case atStart => exact ⟨m, rfl, h3, Nat.le_refl _, HX, HB⟩
      case round =>
        obtain ⟨k, rfl, hk1, hk2, hd, hb⟩ := hrel
        clear HX HB
        have HX := hd; have HB := hb
        clear hb hd
        rename World => w_
        by_cases hlt : i < k
        · obtain ⟨k1, hk1'⟩ : ∃ z, z = k - 1 := ⟨_, rfl⟩
          have v2 : IntKind.i64.wrap ((k : Int) - 1) = (k1 : Int) := by rw [hk1', IntWalk.i64_in _ (by have := HMN.out; have := HN.out; omega)]; omega
          have hA : k < n := by have := HMN.out; omega
          have hB : k1 < n := by have := HMN.out; omega
          have HE := Lib.hid (HST2.out k1 (by omega) (by omega))
          have HK1 := Lib.hid hk1'
          rw [show k1 + 1 = k by omega] at HE
          have HL := Lib.hid HX.out.len
          obtain ⟨xs, hxs⟩ : ∃ z, z = f k := ⟨_, rfl⟩
          rw [← hxs] at HX HE HL
          clear hxs hk1'
          obtain ⟨x, hx⟩ : ∃ z, z = xs.getD k 0 := ⟨_, rfl⟩
          obtain ⟨y, hy⟩ : ∃ z, z = xs.getD k1 0 := ⟨_, rfl⟩
          have HXE := Lib.hid hx; have HYE := Lib.hid hy
          try go_wp2_with fail
          repeat' (first | (with_reducible refine wp_plan (id := 23) Grow [0,0,0,0,0,0,0,0,0,2,0,0,0,2,0,3,0,3] (.get 0 (.get 1 (.get 2 (.get 3 (.get 4 (.get 5 (.get 6 (.get 7 (.get 8 (.get 9 (.get 10 (.get 11 (.get 12 (.get 13 (.get 14 (.act 15 (.get 16 (.act 17 .done)))))))))))))))))) (by kernel_rfl) (by kernel_rfl) Grow.refl Grow.trans ?_) | go_values | go_skip | go_guarded | go_step | go_upon | go_back)
          intro w_ hd_
          have hb_ := hd_.grow
          have HB_ := Lib.hid (HB.out.grow' hb_)
          clear HB
          have HB := HB_
          clear HB_
          have HX_ := Lib.hid (HX.out.grow hb_)
          clear HX
          have HX := HX_
          clear HX_
          clear hb_ hd_
          have ca : w_.cell? ⟨g, k, none⟩ = some (.float .f64 x) := by rw [hx]; exact HX.out.cell hA
          have cb : w_.cell? ⟨g, k1, none⟩ = some (.float .f64 y) := by rw [hy]; exact HX.out.cell hB
          clear hx hy
          repeat (first | (refine pl_calm rfl rfl (by first | exact wanted_none rfl | (go_simp; done) | rfl) (fun w_ => by first | (go_simp; rfl) | (go_simp; done) | rfl) (fun K hK => ?_); go_simp; refine hK _ _ ?_; clear hK K) | (refine pl_skip rfl (by first | (go_simp; done) | rfl) (fun K hK => ?_); go_simp; refine hK _ _ ?_; clear hK K) | (refine pl_skipa rfl (by first | (go_simp; done) | rfl) (fun K hK => ?_); go_simp; refine hK _ _ ?_; clear hK K) | (refine pl_load rfl rfl (by first | exact wanted_none rfl | (go_simp; done) | rfl) rfl (by first | rfl | (go_simp; rfl)) (by kernel_rfl) (by first | exact ca | exact cb) (fun K hK => ?_); go_simp; refine hK _ _ ?_; clear hK K) | (refine pl_loadnow rfl rfl (by first | exact wanted_none rfl | (go_simp; done) | rfl) rfl (by first | rfl | (go_simp; rfl)) (by kernel_rfl) (by first | exact ca | exact cb) (fun K hK => ?_); go_simp; refine hK _ _ ?_; clear hK K))
          refine pl_act rfl (by exact wanted_none rfl) (fun K hK => ?_)
          show wpList _ _ _ [⟨none, .store _ _ _, _, _, _, _⟩] _ _
          obtain ⟨T, hT⟩ := HX.out.tail
          have HT := Lib.hid hT
          clear hT
          have hl1 : k < (xs.map Fv ++ T).length := by rw [List.length_append, List.length_map, HL.out]; exact Nat.lt_add_right _ hA
          go_wp2_with (first | (refine wpl_store1 (o := ⟨none, .store _ _ _, _, _, _, _⟩) rfl rfl HT.out rfl rfl (by kernel_rfl) rfl rfl hl1 ?_))
          intro w2_ hb2_ hg2_ hsz2_
          clear hl1
          go_wp2_with fail
          refine hK _ _ (fun h => absurd h (by decide)) ?_
          clear hK K
          have HB2 := Lib.hid (gb_trans HB.out hg2_)
          have HX2 := Lib.hid hb2_
          clear HX HB hb2_ hg2_ hsz2_ ca cb
          repeat (first | (refine pl_calm rfl rfl (by first | exact wanted_none rfl | (go_simp; done) | rfl) (fun w_ => by first | (go_simp; rfl) | (go_simp; done) | rfl) (fun K hK => ?_); go_simp; refine hK _ _ ?_; clear hK K) | (refine pl_skip rfl (by first | (go_simp; done) | rfl) (fun K hK => ?_); go_simp; refine hK _ _ ?_; clear hK K) | (refine pl_skipa rfl (by first | (go_simp; done) | rfl) (fun K hK => ?_); go_simp; refine hK _ _ ?_; clear hK K))
          refine pl_act rfl (by exact wanted_none rfl) (fun K hK => ?_)
          show wpList _ _ _ [⟨none, .store _ _ _, _, _, _, _⟩] _ _
          have hl1 : k1 < ((xs.map Fv ++ T).set k (Fv y)).length := by rw [List.length_set, List.length_append, List.length_map, HL.out]; exact Nat.lt_add_right _ hB
          go_wp2_with (first | (refine wpl_store1 (o := ⟨none, .store _ _ _, _, _, _, _⟩) rfl rfl HX2.out rfl rfl (by kernel_rfl) rfl rfl hl1 ?_))
          intro w3_ hb2_ hg2_ hsz2_
          clear hl1
          go_wp2_with fail
          refine hK _ _ (fun h => absurd h (by decide)) ?_
          clear hK K
          have HB3 := Lib.hid (gb_trans HB2.out hg2_)
          have HX3 := Lib.hid (show DAt w3_ g n (f k1) by rw [← HE.out]; rw [HXE.out, HYE.out] at hb2_; exact DAt.set2 hb2_ HL.out hA hB)
          clear HX2 HB2 hb2_ hg2_ hsz2_
          refine pl_done ?_
          go_wp2_with fail
          go_roundw
          all_goals clear v2
          case rel => exact ⟨k1, by first | rfl | go_num, by have := HK1.out; omega, by have := HK1.out; omega, HX3, HB3⟩
          case measure => have := HK1.out; simp [intOf]; omega
        · obtain rfl : k = i := by omega
          rw [HF.out] at HX
          go_wp2_with fail
          refine bodyPost_ret (results_none rfl _ _ _) rfl ?_
          exact ⟨rfl, _, HI.out.1, HI.out.2, HX.out, HB.out⟩
end Go.Proofs.Ytccigmpbcjlogaa

/- What symMerge does behind its search, in lists (plain). -/
namespace Go.Proofs.Ytccigmpbcjlogaa
open Go.RowKit
set_option linter.unusedVariables false
/-- symMerge merges whatever has d elements at most. -/
def SymOK (d : Nat) : Prop := ∀ (g n c a m b : Nat) (P X Y S : List Nat) (w : World), DAt w g n (P ++ X ++ Y ++ S) → n ≤ 1000000 → a = P.length → m = a + X.length → b = m + Y.length → 0 < X.length → 0 < Y.length → Srt kF X → Srt kF Y → (∀ x ∈ P ++ X ++ Y ++ S, x < 2^64) → X.length + Y.length ≤ d →
    Calls Try.prog 30 #[.slice (some ⟨g, 0, none⟩) n c, .int .i64 (a : Nat), .int .i64 (m : Nat), .int .i64 (b : Nat), cmpV] w fun e w' => e = .returned (.tuple #[]) ∧ ∃ Z, Z.Perm (X ++ Y) ∧ Srt kF Z ∧ DAt w' g n (P ++ Z ++ S) ∧ w.grownBy w' (some g)
theorem cut_parts {X Y : List Nat} {a m b mid st r s0 r0 : Nat} (hX : Srt kF X) (hY : Srt kF Y) (hxl : X.length = m - a) (hyl : Y.length = b - m) (ham : a < m) (hmb : m < b) (hmid : mid = (a + b) / 2) (h0 : if mid < m then s0 = mid + m - b ∧ r0 = mid else s0 = a ∧ r0 = m)
    (hst : st = r) (hs : s0 ≤ st) (hr : r ≤ r0) (h1 : st = s0 ∨ ky kF X (st - 1 - a) ≤ ky kF Y (mid + m - st - m)) (h2 : r = r0 ∨ ky kF Y (mid + m - 1 - r - m) < ky kF X (r - a)) :
    ∃ X1 X2 Y1 Y2, X1 ++ X2 = X ∧ Y1 ++ Y2 = Y ∧ X1.length = st - a ∧ X2.length = m - st ∧ Y1.length = mid - st ∧ Y2.length = b - (mid + m - st) ∧ (a ≤ st ∧ st ≤ m ∧ st ≤ mid ∧ mid + m - st ≤ b) ∧ (Srt kF X1 ∧ Srt kF X2 ∧ Srt kF Y1 ∧ Srt kF Y2) ∧ ∀ Zl Zr : List Nat, Zl.Perm (X1 ++ Y1) → Zr.Perm (X2 ++ Y2) → Srt kF Zl → Srt kF Zr → (Zl ++ Zr).Perm (X ++ Y) ∧ Srt kF (Zl ++ Zr) := by
  obtain ⟨p1, p2, p3, p4, p5, p6⟩ := cut_ok hX hY hxl hyl ham hmb hmid h0 hst hs hr h1 h2
  have hm : st ≤ mid := by clear p5 p6 h1 h2; omega
  have l1 : (X.take (st - a)).length = st - a := by clear p5 p6 h1 h2; rw [List.length_take]; omega
  have l2 : (X.drop (st - a)).length = m - st := by clear p5 p6 h1 h2; rw [List.length_drop]; omega
  have l3 : (Y.take (mid + m - st - m)).length = mid - st := by clear p5 p6 h1 h2; rw [List.length_take]; omega
  have l4 : (Y.drop (mid + m - st - m)).length = b - (mid + m - st) := by clear p5 p6 h1 h2; rw [List.length_drop]; omega
  exact ⟨X.take (st - a), X.drop (st - a), Y.take (mid + m - st - m), Y.drop (mid + m - st - m), List.take_append_drop _ _, List.take_append_drop _ _, l1, l2, l3, l4, ⟨p1, p2, hm, p4⟩, ⟨srt_take hX _, srt_drop hX _, srt_take hY _, srt_drop hY _⟩, fun Zl Zr hl hr sl sr => merged hX hY p5 p6 hl hr sl sr⟩
/-- The second half's elements are below the bound. -/
theorem sym_mem {B : Nat} {P X Y S X1 X2 Y1 Y2 Zl : List Nat} (ho : ∀ x ∈ P ++ X ++ Y ++ S, x < B) (hx : X1 ++ X2 = X) (hy : Y1 ++ Y2 = Y) (hz : Zl.Perm (X1 ++ Y1)) : ∀ x ∈ P ++ Zl ++ X2 ++ Y2 ++ S, x < B := by
  intro x h
  apply ho
  subst hx; subst hy
  simp only [List.mem_append] at h ⊢
  rcases h with (((h | h) | h) | h) | h
  · exact .inl (.inl (.inl h))
  · rcases List.mem_append.1 (hz.mem_iff.1 h) with h | h
    · exact .inl (.inl (.inr (.inl h)))
    · exact .inl (.inr (.inl h))
  · exact .inl (.inl (.inr (.inr h)))
  · exact .inl (.inr (.inr h))
  · exact .inr h
end Go.Proofs.Ytccigmpbcjlogaa

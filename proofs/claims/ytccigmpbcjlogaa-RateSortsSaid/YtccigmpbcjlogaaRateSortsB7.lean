/- slices.stableCmpFunc and slices.SortStableFunc at floats: sorted by falling rates. -/
import Derived.Test.YtccigmpbcjlogaaRateSortsB6
import Derived.Test.YtccigmpbcjlogaaRateSortsB4
set_option linter.unusedSimpArgs false
/- slices.stableCmpFunc and slices.SortStableFunc at floats: sorted by falling rates. -/
namespace Go.Proofs.Ytccigmpbcjlogaa
open Go.RowKit
set_option linter.unusedVariables false
set_option maxRecDepth 100000 in
set_option maxHeartbeats 8000000 in
theorem stabC_any {g n c : Nat} {L : List Nat} (w : World) (hd : DAt w g n L) (hn : n ≤ 1000000) (ho : ∀ x ∈ L, x < 2^64) :
    Calls Try.prog 25 #[.slice (some ⟨g, 0, none⟩) n c, .int .i64 (n : Nat), cmpV] w fun e w' => e = .returned (.tuple #[]) ∧ ∃ Z, Z.Perm L ∧ Srt kF Z ∧ DAt w' g n Z ∧ w.grownBy w' (some g) := by
  have HN := Lib.hid hn
  have HX := Lib.hid hd
  have HO := Lib.hid ho
  have HL := Lib.hid hd.len
  have HS := Lib.hid (StA.start (k := 20) hd.len)
  obtain ⟨l0, hl0⟩ : ∃ z, z = L := ⟨_, rfl⟩
  rw [show DAt w g n L = DAt w g n l0 by rw [hl0]] at HX
  rw [show StA 20 0 n L L = StA 20 0 n L l0 by rw [hl0]] at HS
  clear hd hn ho hl0
  obtain ⟨w_, hw⟩ : ∃ x, x = w := ⟨_, rfl⟩
  have HB := Lib.hid (show w.grownBy w_ (some g) by rw [hw]; exact World.grownBy.refl _ _)
  rw [← hw] at HX
  suffices H : Calls Try.prog 25 #[.slice (some ⟨g, 0, none⟩) n c, .int .i64 (n : Nat), cmpV] w_ fun e w' => e = .returned (.tuple #[]) ∧ ∃ Z, Z.Perm L ∧ Srt kF Z ∧ DAt w' g n Z ∧ w.grownBy w' (some g) by rw [hw] at H; exact H
  clear hw
  go_enter Try.func25, Try.ntmps25
  go_wp2_with fail
  go_loopw [7, 8] (fun s7 s8 wr => ∃ (a b : Nat) (l : List Nat), s7 = .int .i64 a ∧ s8 = .int .i64 b ∧ b = a + 20 ∧ a ≤ n ∧ Hid (StA 20 a n L l) ∧ Hid (DAt wr g n l) ∧ Hid (w.grownBy wr (some g))) (fun s7 _ _ => n - (intOf s7).toNat)
  case atStart => exact ⟨0, 20, l0, rfl, rfl, rfl, Nat.zero_le _, HS, HX, HB⟩
  case round =>
    obtain ⟨a, b, l, rfl, rfl, hb20, han, hs, hd, hb⟩ := hrel
    clear HX HB HS
    have HX := hd; have HB := hb; have HS := hs
    have HBA := Lib.hid hb20
    clear hb hd hs hb20
    rename World => w_
    by_cases hlt : b ≤ n
    · obtain ⟨P, X, S, h1, h2, h3, h4, h5⟩ := HS.out.parts (by have := HBA.out; omega)
      rw [h1] at HX
      have HC := Lib.hid (insC_any (c := c) (a := a) (b := b) w_ HX.out HN.out (by omega) (by have := HBA.out; omega) (fun x hx => HO.out x (h4 x hx)))
      have H5 := Lib.hid h5
      have v1 : IntKind.i64.wrap ((b : Int) + 20) = (b : Int) + 20 := IntWalk.i64_in _ (by have := HN.out; omega)
      clear h1 h2 h3 h4 h5 HS
      go_wp2_with fail
      refine HC.out.mono ?_
      rintro e w2_ ⟨rfl, Z, hz1, hz2, hd2, hb2⟩
      have HX2 := Lib.hid hd2
      have HB2 := Lib.hid (gb_trans HB.out hb2)
      have HS2 := Lib.hid (H5.out Z hz1 hz2)
      clear hd2 hb2 HC hz1 hz2
      go_wp2_with fail
      go_roundw
      all_goals clear v1
      case rel => exact ⟨b, b + 20, _, rfl, by go_num, rfl, hlt, by rw [HBA.out]; exact HS2, HX2, HB2⟩
      case measure => have := HBA.out; simp [intOf]; omega
    · obtain ⟨P, R, h1, h2, h3, h4, h5⟩ := HS.out.end_ (by have := HBA.out; omega)
      rw [h1] at HX
      have HC := Lib.hid (insC_any (c := c) (a := a) (b := n) w_ HX.out HN.out (by omega) (by omega) (fun x hx => HO.out x (h4 x hx)))
      have H5 := Lib.hid h5
      clear h1 h2 h3 h4 h5 HS HBA han
      go_wp2_with fail
      refine HC.out.mono ?_
      rintro e w2_ ⟨rfl, Z, hz1, hz2, hd2, hb2⟩
      have HX2 := Lib.hid hd2
      have HB2 := Lib.hid (gb_trans HB.out hb2)
      have HS2 := Lib.hid (H5.out Z hz1 hz2)
      clear hd2 hb2 HC hz1 hz2 HX HB H5 hlt
      obtain ⟨l1, hl1⟩ : ∃ z, z = P ++ Z ++ [] := ⟨_, rfl⟩
      rw [← hl1] at HX2 HS2
      clear hl1
      go_wp2_with fail
      go_loopw [6] (fun s6 wr => ∃ (k : Nat) (l : List Nat), s6 = .int .i64 k ∧ 0 < k ∧ k ≤ 2 * n + 20 ∧ Hid (Runs k l ∧ l.Perm L) ∧ Hid (DAt wr g n l) ∧ Hid (w.grownBy wr (some g))) (fun s6 _ => n - (intOf s6).toNat)
      case atStart => exact ⟨20, l1, rfl, by omega, by omega, HS2, HX2, HB2⟩
      case round =>
        obtain ⟨k, l, rfl, hk0, hkn, hs, hd, hb⟩ := hrel
        clear HX2 HB2 HS2
        have HX := hd; have HB := hb; have HS := hs
        clear hb hd hs
        rename World => w_
        by_cases hlt : k < n
        · have HSB := Lib.hid (StB.start HL.out HS.out.1 HS.out.2)
          obtain ⟨k2, hk2⟩ : ∃ z, z = 2 * k := ⟨_, rfl⟩
          have v2 : IntKind.i64.wrap (2 * (k : Int)) = (k2 : Int) := by rw [IntWalk.i64_in _ (by have := HN.out; omega)]; omega
          have v3 : IntKind.i64.wrap ((k : Int) * 2) = (k2 : Int) := by clear v2; rw [IntWalk.i64_in _ (by have := HN.out; omega)]; omega
          have HK := Lib.hid hk2
          clear HS hk2
          go_wp2_with fail
          go_loopw [7, 8] (fun s7 s8 wr => ∃ (a b : Nat) (l : List Nat), s7 = .int .i64 a ∧ s8 = .int .i64 b ∧ b = a + k2 ∧ a ≤ n ∧ Hid (StB k a n L l) ∧ Hid (DAt wr g n l) ∧ Hid (w.grownBy wr (some g))) (fun s7 _ _ => n - (intOf s7).toNat)
          case atStart => exact ⟨0, k2, l, rfl, rfl, by omega, Nat.zero_le _, HSB, HX, HB⟩
          case round =>
            obtain ⟨a, b, l, rfl, rfl, hb20, han, hs, hd, hb⟩ := hrel
            clear HX HB HSB
            have HX := hd; have HB := hb; have HS := hs
            have HBA := Lib.hid hb20
            clear hb hd hs hb20
            rename World => w_
            obtain ⟨m, hm⟩ : ∃ z, z = a + k := ⟨_, rfl⟩
            have v4 : IntKind.i64.wrap ((a : Int) + (k : Int)) = (m : Int) := by clear v2 v3; rw [IntWalk.i64_in _ (by have := HN.out; omega)]; omega
            have HM := Lib.hid hm
            clear hm
            by_cases hlt2 : b ≤ n
            · have HP := Lib.hid (HS.out.parts hk0 (by clear v2 v3 v4; have := HK.out; have := HBA.out; have := HM.out; omega))
              obtain ⟨P, X, Y, S, h1, h2, h3, h4, h5, h6, h7, h8⟩ := HP.out
              rw [h1] at HX
              have HC := Lib.hid (symM_any (X.length + Y.length) g n c a m b P X Y S w_ HX.out HN.out (by clear v2 v3 v4; have := HBA.out; have := HM.out; omega) (by clear v2 v3 v4; have := HBA.out; have := HM.out; omega) (by clear v2 v3 v4; have := HK.out; have := HBA.out; have := HM.out; omega) (by clear v2 v3 v4; have := HBA.out; have := HM.out; omega) (by clear v2 v3 v4; have := HBA.out; have := HM.out; omega) h5 h6 (fun x hx => HO.out x (h7 x hx)) (Nat.le_refl _))
              have H8 := Lib.hid h8
              have v1 : IntKind.i64.wrap ((b : Int) + (k2 : Int)) = (b : Int) + (k2 : Int) := IntWalk.i64_in _ (by clear v2 v3 v4; have := HN.out; have := HK.out; have := HBA.out; have := HM.out; omega)
              clear h1 h2 h3 h4 h5 h6 h7 h8 HS HP
              go_wp2_with fail
              refine HC.out.mono ?_
              rintro e w2_ ⟨rfl, Z, hz1, hz2, hd2, hb2⟩
              have HX2 := Lib.hid hd2
              have HB2 := Lib.hid (gb_trans HB.out hb2)
              have HS2 := Lib.hid (H8.out Z hz1 hz2)
              clear hd2 hb2 HC hz1 hz2
              go_wp2_with fail
              go_roundw
              all_goals clear v1 v2 v3 v4
              case rel => exact ⟨b, b + k2, _, rfl, by go_num, rfl, hlt2, by rw [HBA.out, HK.out]; exact HS2, HX2, HB2⟩
              case measure => have := HK.out; have := HBA.out; simp [intOf]; omega
            · by_cases hmn : m < n
              · have HP := Lib.hid (HS.out.more (by clear v2 v3 v4; have := HK.out; have := HBA.out; have := HM.out; omega) (by clear v2 v3 v4; have := HBA.out; have := HM.out; omega))
                obtain ⟨P, X, Y, h1, h2, h3, h4, h5, h6, h7, h8, h9⟩ := HP.out
                rw [h1] at HX
                have HC := Lib.hid (symM_any (X.length + Y.length) g n c a m n P X Y [] w_ HX.out HN.out (by clear v2 v3 v4; have := HBA.out; have := HM.out; omega) (by clear v2 v3 v4; have := HBA.out; have := HM.out; omega) (by clear v2 v3 v4; have := HBA.out; have := HM.out; omega) (by clear v2 v3 v4; have := HBA.out; have := HM.out; omega) h5 h6 h7 (fun x hx => HO.out x (h8 x hx)) (Nat.le_refl _))
                have H9 := Lib.hid h9
                clear h1 h2 h3 h4 h5 h6 h7 h8 h9 HS HP
                go_wp2_with fail
                refine HC.out.mono ?_
                rintro e w2_ ⟨rfl, Z, hz1, hz2, hd2, hb2⟩
                have HX2 := Lib.hid hd2
                have HB2 := Lib.hid (gb_trans HB.out hb2)
                have HS2 := Lib.hid (H9.out Z hz1 hz2)
                clear hd2 hb2 HC hz1 hz2
                go_wp2_with fail
                go_roundw
                all_goals clear v2 v3 v4
                case rel => exact ⟨k2, _, rfl, by have := HK.out; omega, by have := HK.out; omega, by rw [HK.out]; exact HS2, HX2, HB2⟩
                case measure => have := HK.out; have := HBA.out; simp [intOf]; omega
              · have HS2 := Lib.hid (HS.out.less (by clear v2 v3 v4; have := HBA.out; have := HM.out; omega))
                clear HS
                go_wp2_with fail
                go_roundw
                all_goals clear v2 v3 v4
                case rel => exact ⟨k2, _, rfl, by have := HK.out; omega, by have := HK.out; omega, by rw [HK.out]; exact HS2, HX, HB⟩
                case measure => have := HK.out; have := HBA.out; simp [intOf]; omega
        · have HR := Lib.hid (HS.out.1.one (by rw [HS.out.2.length_eq, HL.out]; omega))
          go_wp2_with fail
          go_end0
          exact ⟨rfl, l, HS.out.2, HR.out, HX.out, HB.out⟩
theorem sortSF_any {g n c : Nat} {L : List Nat} (w : World) (hd : DAt w g n L) (hn : n ≤ 1000000) (ho : ∀ x ∈ L, x < 2^64) :
    Calls Try.prog 15 #[.slice (some ⟨g, 0, none⟩) n c, cmpV] w fun e w' => e = .returned (.tuple #[]) ∧ ∃ Z, Z.Perm L ∧ Srt kF Z ∧ DAt w' g n Z ∧ w.grownBy w' (some g) := by
  have HC := Lib.hid (stabC_any (c := c) w hd hn ho)
  clear hd hn ho
  go_enter Try.func15, Try.ntmps15
  go_wp2_with fail
  refine HC.out.mono ?_
  rintro e w2_ ⟨rfl, h⟩
  have H := Lib.hid h
  clear h HC
  go_wp2_with fail
  go_end0
  exact ⟨rfl, H.out⟩
end Go.Proofs.Ytccigmpbcjlogaa

/- rate.Sort, rate.Middle and rate.Best. -/
namespace Go.Proofs.Ytccigmpbcjlogaa
open Go.RowKit
set_option linter.unusedVariables false
theorem info_f64 : (Try.prog.info? 26).map (fun i => (i.zero, i.size, i.bytes)) = some (some (Fv 0), 1, 8) := by kernel_rfl
theorem el_f64 : ElemT Try.prog 22 26 1 8 := elemT Try.underlying22 info_f64 rfl (by omega)
theorem run_nil_f64 (w : World) (a : Option Addr) (n c n' c' : Nat) : (binOp .eql 22 (.slice a n c) (.slice none n' c')).run Try.prog w = .ok (.bool a.isNone) w := Lib.run_eql_slice_nil w _ _ a n c n' c' Try.underlying22
theorem all_f64 (xs : List Nat) : ∀ u ∈ xs.map Fv, u.oneCell' = true := by
  intro u hu
  obtain ⟨x, _, rfl⟩ := List.mem_map.1 hu
  rfl
theorem dat_own {w : World} {base n c : Nat} {A : Option Addr} {xs : List Nat} (h : w.ownsRow base 26 1 (.slice A n c) n (xs.map Fv)) (hn : 0 < n) : ∃ g, A = some ⟨g, 0, none⟩ ∧ base ≤ g ∧ g < w.heap.size ∧ DAt w g n xs := by
  obtain ⟨h1, h2 | ⟨g, cap, cur, hv, hb, hh, hc, hm, hs, ht⟩⟩ := h
  · omega
  · cases hv
    refine ⟨g, rfl, hb, ?_, ⟨cur.toList.drop (n * 1), ?_⟩, by rw [List.length_map] at h1; omega⟩
    · have := (Array.getElem?_eq_some_iff.1 hh).1; exact this
    · unfold Blk
      rw [← ht, List.take_append_drop]; exact hh
/-- A slice of floats that may be read. -/
def FSz (w : World) (Bd : Nat) (A : Option Addr) (n : Nat) (xs : List Nat) : Prop := xs.length = n ∧ (0 < n → ∃ b off, A = some ⟨b, off, none⟩ ∧ b < Bd ∧ ∀ k, k < n → w.cell? ⟨b, off + k, none⟩ = some (Fv (xs.getD k 0)))
theorem FSz.of_sl {w : World} {Bd n : Nat} {A : Option Addr} {xs : List Nat} (h : Sl w Bd 1 A n (xs.map Fv)) : FSz w Bd A n xs := by
  have hl : xs.length = n := by have := h.len; rwa [List.length_map] at this
  refine ⟨hl, fun h0 => ?_⟩
  obtain ⟨b, off, rfl, hb, hc⟩ := h.2 h0
  refine ⟨b, off, rfl, hb, fun k hk => hc k _ ?_⟩
  rw [List.getElem?_map, List.getD_eq_getElem?_getD, List.getElem?_eq_getElem (by omega)]; rfl
theorem FSz.sl {w : World} {Bd n : Nat} {A : Option Addr} {xs : List Nat} (h : FSz w Bd A n xs) : Sl w Bd 1 A n (xs.map Fv) := by
  obtain ⟨hl, h⟩ := h
  refine ⟨by rw [List.length_map]; omega, fun h0 => ?_⟩
  obtain ⟨b, off, rfl, hb, hc⟩ := h h0
  refine ⟨b, off, rfl, hb, fun j u hu => ?_⟩
  rw [List.getElem?_map] at hu
  obtain ⟨x, hx, rfl⟩ := Option.map_eq_some_iff.1 hu
  have hj := (List.getElem?_eq_some_iff.1 hx).1
  rw [hc j (by omega), List.getD_eq_getElem?_getD, hx]; rfl
theorem FSz.below {w w' : World} {Bd n : Nat} {A : Option Addr} {xs : List Nat} (h : FSz w Bd A n xs) (k : Below Bd w w') : FSz w' Bd A n xs := by
  refine ⟨h.1, fun h0 => ?_⟩
  obtain ⟨b, off, rfl, hb, hc⟩ := h.2 h0
  exact ⟨b, off, rfl, hb, fun j hj => by rw [k.cell hb]; exact hc j hj⟩
theorem FSz.more {w : World} {Bd Bd' n : Nat} {A : Option Addr} {xs : List Nat} (h : FSz w Bd A n xs) (k : Bd ≤ Bd') : FSz w Bd' A n xs := by
  refine ⟨h.1, fun h0 => ?_⟩
  obtain ⟨b, off, rfl, hb, hc⟩ := h.2 h0
  exact ⟨b, off, rfl, by omega, hc⟩
theorem FSz.of_dat {w : World} {g n : Nat} {xs : List Nat} (h : DAt w g n xs) (hg : g < w.heap.size) : FSz w w.heap.size (some ⟨g, 0, none⟩) n xs :=
  ⟨h.len, fun _ => ⟨g, 0, rfl, hg, fun k hk => by rw [Nat.zero_add]; exact h.cell hk⟩⟩
theorem FSz.zero {w : World} {Bd : Nat} (A : Option Addr) : FSz w Bd A 0 [] := ⟨rfl, fun h => absurd h (by omega)⟩
theorem rclone_any (A : Option Addr) (n c : Nat) (xs : List Nat) (w : World) (hs : FSz w w.heap.size A n xs) (hn : n ≤ 1000000) :
    Calls Try.prog 14 #[.slice A n c] w fun e w' => ∃ A' c', e = .returned (.slice A' n c') ∧ w'.ownsRow w.heap.size 26 1 (.slice A' n c') n (xs.map Fv) ∧ Grow w w' := by
  have HS := Lib.hid hs.sl
  have qT := run_nil_f64
  cases A with
  | none =>
    obtain rfl : n = 0 := by
      rcases Nat.eq_zero_or_pos n with h0 | h0
      · exact h0
      · obtain ⟨b, off, h1, _⟩ := hs.2 h0; cases h1
    have hb0 : xs = [] := List.length_eq_zero_iff.1 hs.1
    subst hb0
    clear hs
    go_enter Try.func14, Try.ntmps14
    go_wp2
    go_ret
    exact ⟨none, 0, rfl, World.ownsRow_nil _ _ _ _, Grow.refl _⟩
  | some ad =>
    have HN0 := Lib.hid (World.ownsRow_lit (base := w.heap.size) (e := 26) (size := 1) w #[] 0 (Nat.le_refl _) (by simp [maxLen]) rfl)
    have HSA := Lib.hid (HS.out.alloc (Nat.le_refl _) (.cells #[] 26))
    have HONE := Lib.hid (all_f64 xs)
    clear hs
    go_enter Try.func14, Try.ntmps14
    go_wp2_with (at_builtin; refine wpl_apps rfl rfl el_f64 HN0.out rfl HSA.out rfl HONE.out (by omega) (by omega) (by simp) ?_)
    intro A4 c4 w4 ho hg hA
    have HO := Lib.hid (show w4.ownsRow w.heap.size 26 1 (.slice A4 n c4) n (xs.map Fv) by simpa using ho)
    have HB := Lib.hid (show Grow w w4 from ((Below.refl w.heap.size w).alloc (Nat.le_refl _) (.cells #[] 26)).grown hg (by simp) (by intro k hk; cases hk; exact Nat.le_refl _))
    clear ho hg hA
    try simp only [Nat.zero_add]
    go_wp2_with fail
    go_ret
    exact ⟨A4, c4, rfl, HO.out, HB.out⟩
/-- Of no elements nothing is done. -/
theorem ins0_any (A : Option Addr) (c : Nat) (w : World) : Calls Try.prog 29 #[.slice A 0 c, .int .i64 0, .int .i64 0, cmpV] w fun e w' => e = .returned (.tuple #[]) ∧ w = w' := by
  go_enter Try.func29, Try.ntmps29
  go_wp2_with fail
  go_loopw [8] (fun s8 wr => s8 = .int .i64 1 ∧ wr = w) (fun s8 _ => 0)
  case atStart => exact ⟨rfl, rfl⟩
  case round =>
    obtain ⟨rfl, hw⟩ := hrel
    subst hw
    go_wp2_with fail
    go_end0
    exact ⟨rfl, rfl⟩
theorem stab0_any (A : Option Addr) (c : Nat) (w : World) : Calls Try.prog 25 #[.slice A 0 c, .int .i64 0, cmpV] w fun e w' => e = .returned (.tuple #[]) ∧ w = w' := by
  have HC := Lib.hid (ins0_any A c w)
  go_enter Try.func25, Try.ntmps25
  go_wp2_with fail
  go_loopw [7, 8] (fun s7 s8 wr => s7 = .int .i64 0 ∧ s8 = .int .i64 20 ∧ wr = w) (fun s7 _ _ => 0)
  case atStart => exact ⟨rfl, rfl, rfl⟩
  case round =>
    obtain ⟨rfl, rfl, hw⟩ := hrel
    subst hw
    rename World => w_
    go_wp2_with fail
    refine HC.out.mono ?_
    rintro e w2_ ⟨rfl, rfl⟩
    clear HC
    go_wp2_with fail
    go_loopw [6] (fun s6 wr => s6 = .int .i64 20 ∧ wr = w_) (fun s6 _ => 0)
    case atStart => exact ⟨rfl, rfl⟩
    case round =>
      obtain ⟨rfl, hw⟩ := hrel
      subst hw
      go_wp2_with fail
      go_end0
      exact ⟨rfl, rfl⟩
theorem sort0_any (A : Option Addr) (c : Nat) (w : World) : Calls Try.prog 15 #[.slice A 0 c, cmpV] w fun e w' => e = .returned (.tuple #[]) ∧ w = w' := by
  have HC := Lib.hid (stab0_any A c w)
  go_enter Try.func15, Try.ntmps15
  go_wp2_with fail
  refine HC.out.mono ?_
  rintro e w2_ ⟨rfl, rfl⟩
  clear HC
  go_wp2_with fail
  go_end0
  exact ⟨rfl, rfl⟩
theorem rtsort_any (A : Option Addr) (n c : Nat) (xs : List Nat) (w : World) (hs : FSz w w.heap.size A n xs) (hn : n ≤ 1000000) (ho : ∀ x ∈ xs, x < 2^64) :
    Calls Try.prog 5 #[.slice A n c] w fun e w' => ∃ A' c', e = .returned (.slice A' n c') ∧ Grow w w' ∧ ∃ Z, Z.Perm xs ∧ Srt kF Z ∧ FSz w' w'.heap.size A' n Z := by
  have HC := Lib.hid (rclone_any A n c xs w hs hn)
  have HN := Lib.hid hn
  have HO := Lib.hid ho
  have HL := Lib.hid hs.1
  clear hs hn ho
  go_enter Try.func5, Try.ntmps5
  go_wp2_with fail
  refine HC.out.mono ?_
  rintro e w2_ ⟨A2, c2, rfl, h1, h2⟩
  have HB := Lib.hid h2
  rcases Nat.eq_zero_or_pos n with h0 | h0
  · subst h0
    have hx : xs = [] := List.length_eq_zero_iff.1 HL.out
    subst hx
    have HC2 := Lib.hid (sort0_any A2 c2 w2_)
    clear h1 h2 HC
    go_wp2_with fail
    refine HC2.out.mono ?_
    rintro e w3_ ⟨rfl, rfl⟩
    clear HC2
    go_wp2_with fail
    go_ret
    exact ⟨A2, c2, rfl, HB.out, [], .refl _, by simp [Srt], FSz.zero _⟩
  · obtain ⟨g, rfl, hg, hgs, hd⟩ := dat_own h1 h0
    have HC2 := Lib.hid (sortSF_any (c := c2) w2_ hd HN.out HO.out)
    have HG := Lib.hid hg; have HGS := Lib.hid hgs
    clear h1 h2 HC hg hd hgs
    go_wp2_with fail
    refine HC2.out.mono ?_
    rintro e w3_ ⟨rfl, Z, hz1, hz2, hd, hb⟩
    have HZ := Lib.hid hz1; have HZ2 := Lib.hid hz2; have HD := Lib.hid hd; have HB3 := Lib.hid hb
    clear HC2 hz1 hz2 hd hb
    go_wp2_with fail
    go_ret
    exact ⟨_, c2, rfl, HB.out.grown HB3.out (HB.out.size) (by intro k hk; cases hk; exact HG.out), Z, HZ.out, HZ2.out, FSz.of_dat HD.out (Nat.lt_of_lt_of_le HGS.out HB3.out.size)⟩
theorem rtmid0 (A : Option Addr) (c : Nat) (w : World) : Calls Try.prog 9 #[.slice A 0 c] w fun e w' => e = .returned (.float .f64 9221120237041090561) ∧ w = w' := by
  go_enter Try.func9, Try.ntmps9
  go_wp2_with fail
  refine (mnan _).mono ?_
  rintro e w2_ ⟨rfl, rfl⟩
  go_wp2_with fail
  go_ret
  exact ⟨rfl, rfl⟩
theorem rtmid_any (A : Option Addr) (n c : Nat) (xs : List Nat) (w : World) (hs : FSz w w.heap.size A n xs) (hn : n ≤ 1000000) (h0 : 0 < n) (ho : ∀ x ∈ xs, x < 2^64) :
    Calls Try.prog 9 #[.slice A n c] w fun e w' => ∃ Z, e = .returned (.float .f64 (Z.getD (n / 2) 0)) ∧ Grow w w' ∧ Z.Perm xs ∧ Srt kF Z := by
  have HC := Lib.hid (rtsort_any A n c xs w hs hn ho)
  have HN := Lib.hid hn
  have z0 : ((n : Int) == 0) = false := by simp; omega
  have v1 : RowKit.wrap64 ((n : Int) / 2) = ((n / 2 : Nat) : Int) := by rw [wrap64_inS _ (by omega)]; omega
  obtain ⟨h, hh⟩ : ∃ h, h = n / 2 := ⟨_, rfl⟩
  have hlt : h < n := by clear v1; omega
  rw [← hh] at v1 ⊢
  clear hs hn ho h0 hh
  go_enter Try.func9, Try.ntmps9
  go_wp2_with fail
  refine HC.out.mono ?_
  rintro e w2_ ⟨A2, c2, rfl, h1, Z, h3, h4, h5⟩
  obtain ⟨b, off, rfl, hb, hc⟩ := h5.2 (by clear v1 z0; omega)
  have c1 := hc h hlt
  have HB := Lib.hid h1; have HZ := Lib.hid h3; have HZ2 := Lib.hid h4
  clear h1 h3 h4 h5 hb hc HC
  obtain ⟨x, hx⟩ : ∃ x, x = Z.getD h 0 := ⟨_, rfl⟩
  rw [← hx] at c1
  have HXX := Lib.hid hx
  clear hx
  go_wp2_with fail
  go_ret
  exact ⟨Z, (by rw [HXX.out]; rfl), HB.out, HZ.out, HZ2.out⟩
theorem rtbest0 (A : Option Addr) (c : Nat) (w : World) : Calls Try.prog 8 #[.slice A 0 c] w fun e w' => e = .returned (.tuple #[.int .i64 0, .bool false]) ∧ w = w' := by
  go_enter Try.func8, Try.ntmps8
  go_wp2_with fail
  go_ret2
  exact ⟨rfl, rfl⟩
/-- The best of the first i. -/
def BestI (xs : List Nat) (i at_ : Nat) : Prop := (∀ j, j < i → kF (xs.getD at_ 0) ≤ kF (xs.getD j 0)) ∧ ∀ j, j < at_ → kF (xs.getD at_ 0) < kF (xs.getD j 0)
set_option maxRecDepth 100000 in
set_option maxHeartbeats 4000000 in
theorem rtbest_any (A : Option Addr) (n c : Nat) (xs : List Nat) (w : World) (hs : FSz w w.heap.size A n xs) (hn : n ≤ 1000000) (h0 : 0 < n) (ho : ∀ x ∈ xs, x < 2^64) :
    Calls Try.prog 8 #[.slice A n c] w fun e w' => ∃ k : Nat, e = .returned (.tuple #[.int .i64 (k : Nat), .bool true]) ∧ Below w.heap.size w w' ∧ k < n ∧ BestI xs n k := by
  have HS := Lib.hid hs; have HN := Lib.hid hn; have HO := Lib.hid ho
  have z0 : ((n : Int) == 0) = false := by simp; omega
  have hn0 : 0 < n := h0
  clear hs hn ho h0
  obtain ⟨b, off, rfl, hb, hc⟩ := HS.out.2 hn0
  have HLN := Lib.hid HS.out.1
  have HCE := Lib.hid (show ∀ w', Below w.heap.size w w' → ∀ k, k < n → w'.cell? ⟨b, off + k, none⟩ = some (Fv (xs.getD k 0)) from fun w' hB k hk => by rw [hB.cell hb]; exact hc k hk)
  clear HS hb hc
  go_enter Try.func8, Try.ntmps8
  go_wp2_with fail
  go_loopw [4, 12] (fun s4 s12 wr => ∃ at_ i : Nat, s4 = .int .i64 at_ ∧ s12 = .int .i64 i ∧ at_ < n ∧ i ≤ n ∧ Hid (BestI xs i at_) ∧ Hid (Below w.heap.size w wr)) (fun _ s12 _ => n - (intOf s12).toNat)
  case atStart => exact ⟨0, 0, rfl, rfl, hn0, Nat.zero_le _, Lib.hid ⟨fun j h => absurd h (by omega), fun j h => absurd h (by omega)⟩, Lib.hid (Below.refl _ _)⟩
  case round =>
    obtain ⟨k, i, rfl, rfl, hk, hi, hI, hB⟩ := hrel
    have HI := hI; have HB := hB
    clear hI hB
    rename World => w_
    by_cases hlt : i < n
    · have c1 := HCE.out w_ HB.out i hlt
      have c2 := HCE.out w_ HB.out k hk
      obtain ⟨x, hx⟩ : ∃ x, x = xs.getD i 0 := ⟨_, rfl⟩
      obtain ⟨y, hy⟩ : ∃ x, x = xs.getD k 0 := ⟨_, rfl⟩
      rw [← hx] at c1; rw [← hy] at c2
      have ox : x < 2^64 := HO.out x (by rw [hx, List.getD_eq_getElem?_getD, List.getElem?_eq_getElem (by rw [HLN.out]; exact hlt)]; exact List.getElem_mem _)
      have oy : y < 2^64 := HO.out y (by rw [hy, List.getD_eq_getElem?_getD, List.getElem?_eq_getElem (by rw [HLN.out]; exact hk)]; exact List.getElem_mem _)
      have HC := Lib.hid (rcmp_any x y w_ ox oy)
      have HXE := Lib.hid hx; have HYE := Lib.hid hy
      have HZ := Lib.hid (show 0 < cmpK x y ↔ kF x < kF y by
        have h1 := @kF_lt x y
        have h2 : cmpK y x = -(cmpK x y) := by unfold cmpK; exact cmpN_neg _ _
        rw [h1, h2]; omega)
      obtain ⟨z, hz⟩ : ∃ z, z = cmpK x y := ⟨_, rfl⟩
      rw [← hz] at HC HZ
      clear hx hy ox oy hz
      have v1 : IntKind.i64.wrap ((i : Int) + 1) = (i : Int) + 1 := IntWalk.i64_in _ (by have := HN.out; omega)
      by_cases hz0 : 0 < z
      · have HBI := Lib.hid (show BestI xs (i + 1) i by
          have hlt' := HZ.out.1 hz0
          rw [HXE.out, HYE.out] at hlt'
          refine ⟨fun j hj => ?_, fun j hj => Int.lt_of_lt_of_le hlt' (HI.out.1 j (by omega))⟩
          rcases Nat.lt_or_ge j i with h | h
          · exact Int.le_trans (Int.le_of_lt hlt') (HI.out.1 j h)
          · rw [show j = i by clear v1; omega]; exact Int.le_refl _)
        go_wp2_with fail
        refine HC.out.mono ?_
        rintro e w2_ ⟨rfl, hb⟩
        have HB2 := Lib.hid (HB.out.trans (hb.mono HB.out.size))
        clear hb HC c1 c2
        go_wp2_with fail
        go_roundw
        all_goals clear v1
        case rel => exact ⟨i, i + 1, rfl, by go_num, hlt, hlt, HBI, HB2⟩
        case measure => simp [intOf]; omega
      · have hz1 : ¬ z > 0 := hz0
        have HBI := Lib.hid (show BestI xs (i + 1) k by
          have hle : kF y ≤ kF x := Int.not_lt.1 (fun h => hz0 (HZ.out.2 h))
          rw [HXE.out, HYE.out] at hle
          refine ⟨fun j hj => ?_, HI.out.2⟩
          rcases Nat.lt_or_ge j i with h | h
          · exact HI.out.1 j h
          · rw [show j = i by clear v1; omega]; exact hle)
        have hz2 : z ≤ 0 := Int.not_lt.1 hz0
        go_wp2_with fail
        refine HC.out.mono ?_
        rintro e w2_ ⟨rfl, hb⟩
        have HB2 := Lib.hid (HB.out.trans (hb.mono HB.out.size))
        clear hb HC c1 c2
        go_wp2_with fail
        go_roundw
        all_goals clear v1
        case rel => exact ⟨k, i + 1, rfl, by go_num, hk, hlt, HBI, HB2⟩
        case measure => simp [intOf]; omega
    · obtain rfl : i = n := by omega
      go_wp2_with fail
      go_ret2
      exact ⟨k, rfl, HB.out, hk, HI.out⟩
end Go.Proofs.Ytccigmpbcjlogaa

/- slices.symMergeCmpFunc at floats: two sorted ranges that lie side by side become one. -/
import Derived.Test.YtccigmpbcjlogaaRateSortsB5
import Derived.Deep.CutBlock
set_option linter.unusedSimpArgs false
/- slices.symMergeCmpFunc at floats: two sorted ranges that lie side by side become one. -/
namespace Go.Proofs.Ytccigmpbcjlogaa
open Go.RowKit
set_option linter.unusedVariables false
/-- The numbers of a call. -/
def SymN (d n a m b mid ab nn p xl yl pl : Nat) : Prop := n ≤ 1000000 ∧ a = pl ∧ m = a + xl ∧ b = m + yl ∧ b ≤ n ∧ 2 ≤ xl ∧ 2 ≤ yl ∧ xl + yl ≤ d + 1 ∧ ab = a + b ∧ mid = (a + b) / 2 ∧ nn = mid + m ∧ p + 1 = nn
def SymI (m b mid a s0 r0 : Nat) : Prop := (mid < m → s0 = mid + m - b ∧ r0 = mid) ∧ (m ≤ mid → s0 = a ∧ r0 = m)
theorem SymI.ite {m b mid a s0 r0 : Nat} (h : SymI m b mid a s0 r0) : if mid < m then s0 = mid + m - b ∧ r0 = mid else s0 = a ∧ r0 = m := by
  by_cases hm : mid < m
  · rw [if_pos hm]; exact h.1 hm
  · rw [if_neg hm]; exact h.2 (by omega)
theorem SymI.bd {d n m b mid a s0 r0 ab nn p xl yl pl : Nat} (h : SymI m b mid a s0 r0) (k : SymN d n a m b mid ab nn p xl yl pl) : s0 ≤ r0 ∧ a ≤ s0 ∧ r0 ≤ m ∧ ∀ c, s0 ≤ c → c < r0 → a ≤ c ∧ c < m ∧ c ≤ p ∧ m ≤ p - c ∧ p - c < b := by
  obtain ⟨k1, k2, k3, k4, k5, k6, k7, k8, k9, k10, k11, k12⟩ := k
  rcases Nat.lt_or_ge mid m with hm | hm
  · obtain ⟨e1, e2⟩ := h.1 hm
    refine ⟨by omega, by omega, by omega, fun c h1 h2 => ⟨by omega, by omega, by omega, by omega, by omega⟩⟩
  · obtain ⟨e1, e2⟩ := h.2 hm
    refine ⟨by omega, by omega, by omega, fun c h1 h2 => ⟨by omega, by omega, by omega, by omega, by omega⟩⟩
set_option maxRecDepth 100000 in
set_option maxHeartbeats 8000000 in
theorem symM_core {d : Nat} (IH : Hid (SymOK d)) {g n c a m b mid ab nn p s0 r0 xl yl pl : Nat} {P X Y S xs : List Nat} (w w_ : World) (HX : Hid (DAt w_ g n xs)) (HB : Hid (w.grownBy w_ (some g))) (HN : Hid (SymN d n a m b mid ab nn p xl yl pl)) (HI : Hid (SymI m b mid a s0 r0)) (HXL : Hid (X.length = xl ∧ Y.length = yl ∧ P.length = pl)) (HSRT : Hid (Srt kF X ∧ Srt kF Y)) (HXS : Hid (xs = P ++ X ++ Y ++ S)) (HO : Hid (∀ x ∈ xs, x < 2^64))
    (HGX : Hid (∀ h, a ≤ h → h < m → xs.getD h 0 = X.getD (h - a) 0)) (HGY : Hid (∀ h, m ≤ h → h < b → xs.getD h 0 = Y.getD (h - m) 0)) :
    Calls Try.prog 30 #[.slice (some ⟨g, 0, none⟩) n c, .int .i64 (a : Nat), .int .i64 (m : Nat), .int .i64 (b : Nat), cmpV] w_ fun e w' => e = .returned (.tuple #[]) ∧ ∃ Z, Z.Perm (X ++ Y) ∧ Srt kF Z ∧ DAt w' g n (P ++ Z ++ S) ∧ w.grownBy w' (some g) := by
  have HBD := Lib.hid (HI.out.bd HN.out)
  have VV : IntKind.i64.wrap ((m : Int) - (a : Int)) = (xl : Int) ∧ IntKind.i64.wrap ((b : Int) - (m : Int)) = (yl : Int) ∧ IntKind.i64.wrap ((a : Int) + (b : Int)) = (ab : Int) ∧ IntKind.u64.wrap (ab : Int) = (ab : Int) ∧ RowKit.wrap64 ((ab : Int) / 2) = (mid : Int) ∧ IntKind.i64.wrap ((mid : Int) + (m : Int)) = (nn : Int) ∧ IntKind.i64.wrap ((nn : Int) - 1) = (p : Int) := by
    obtain ⟨k1, k2, k3, k4, k5, k6, k7, k8, k9, k10, k11, k12⟩ := HN.out
    refine ⟨?_, ?_, ?_, ?_, ?_, ?_, ?_⟩
    · rw [IntWalk.i64_in _ (by omega)]; omega
    · rw [IntWalk.i64_in _ (by omega)]; omega
    · rw [IntWalk.i64_in _ (by omega)]; omega
    · rw [IntKind.wrap_u64]; omega
    · rw [wrap64_inS _ (by omega)]; omega
    · rw [IntWalk.i64_in _ (by omega)]; omega
    · rw [IntWalk.i64_in _ (by omega)]; omega
  have z0 : ((xl : Int) == 1) = false := by have := HN.out.2.2.2.2.2.1; clear VV; simp; omega
  have z00 : ((yl : Int) == 1) = false := by have := HN.out.2.2.2.2.2.2.1; clear VV; simp; omega
  obtain ⟨v0, v00, v1, v2, v3, v4, v5⟩ := VV
  have HV5 := Lib.hid v5
  clear v5
  go_enter Try.func30, Try.ntmps30
  go_upto_if 140 with fail
  rw [v3]
  clear v0 v00 v1 v2 v3 v4 z0 z00
  go_cut [20, 21] from 25 (fun s20 s21 wr => s20 = .int .i64 (s0 : Nat) ∧ s21 = .int .i64 (r0 : Nat) ∧ wr = w_)
  case first =>
    by_cases hm : mid < m
    · have e := HI.out.1 hm
      have v6 : IntKind.i64.wrap ((nn : Int) - (b : Int)) = (s0 : Int) := by
        obtain ⟨k1, k2, k3, k4, k5, k6, k7, k8, k9, k10, k11, k12⟩ := HN.out
        rw [IntWalk.i64_in _ (by omega)]; omega
      have HE := Lib.hid e.2
      clear e
      go_wp2_with fail
      go_meet
      case rel => exact ⟨rfl, by rw [HE.out], rfl⟩
    · have e := HI.out.2 (by omega)
      have HE := Lib.hid e
      clear e
      have hmi' : m ≤ mid := Nat.le_of_not_lt hm
      clear hm
      go_wp2_with fail
      go_meet
      case rel => exact ⟨by rw [HE.out.1], by rw [HE.out.2], rfl⟩
  case rest =>
    obtain ⟨rfl, rfl, hw⟩ := hcut
    subst hw
    rename World => w_
    have v5 := HV5.out
    have HS0 := Lib.hid (show s0 ≤ r0 from HBD.out.1)
    go_wp2_with fail
    clear v5 HV5
    go_loopw [20, 21] (fun s20 s21 wr => ∃ (st r : Nat), s20 = .int .i64 st ∧ s21 = .int .i64 r ∧ s0 ≤ st ∧ st ≤ r ∧ r ≤ r0 ∧ Hid ((st = s0 ∨ ky kF X (st - 1 - a) ≤ ky kF Y (mid + m - st - m)) ∧ (r = r0 ∨ ky kF Y (mid + m - 1 - r - m) < ky kF X (r - a))) ∧ Hid (DAt wr g n xs) ∧ Hid (w.grownBy wr (some g))) (fun s20 s21 _ => (intOf s21).toNat - (intOf s20).toNat)
    case atStart => exact ⟨s0, r0, rfl, rfl, Nat.le_refl _, HS0.out, Nat.le_refl _, Lib.hid ⟨.inl rfl, .inl rfl⟩, HX, HB⟩
    case round =>
      obtain ⟨st, r, rfl, rfl, h1, h2, h3, hs, hd, hb⟩ := hrel
      clear HX HB HS0
      have HX := hd; have HB := hb; have HS := hs
      clear hb hd hs
      rename World => w_
      by_cases hlt : st < r
      · obtain ⟨ij, hij⟩ : ∃ z, z = st + r := ⟨_, rfl⟩
        obtain ⟨h, hh⟩ : ∃ z, z = (st + r) / 2 := ⟨_, rfl⟩
        obtain ⟨bc1, bc2, bc3, bc4, bc5⟩ := HBD.out.2.2.2 h (by omega) (by omega)
        obtain ⟨q, hq⟩ : ∃ z, z = p - h := ⟨_, rfl⟩
        have HQ := Lib.hid hq
        have hqn : q < n := by have := HN.out.2.2.2.2.1; omega
        have hhn : h < n := by have := HN.out.2.2.2.2.1; omega
        have HH := Lib.hid (show st ≤ h ∧ h < r ∧ a ≤ h from ⟨by omega, by omega, bc1⟩)
        obtain ⟨x, hx⟩ : ∃ z, z = xs.getD h 0 := ⟨_, rfl⟩
        obtain ⟨y, hy⟩ : ∃ z, z = xs.getD q 0 := ⟨_, rfl⟩
        have HXY := Lib.hid (show ky kF X (h - a) = kF x by unfold ky; rw [← HGX.out h bc1 bc2, hx])
        have HYY := Lib.hid (show ky kF Y (q - m) = kF y by unfold ky; rw [← HGY.out q (by omega) (by omega), hy])
        have ox : x < 2^64 := HO.out x (by rw [hx, List.getD_eq_getElem?_getD, List.getElem?_eq_getElem (by rw [HX.out.len]; exact hhn)]; exact List.getElem_mem _)
        have oy : y < 2^64 := HO.out y (by rw [hy, List.getD_eq_getElem?_getD, List.getElem?_eq_getElem (by rw [HX.out.len]; exact hqn)]; exact List.getElem_mem _)
        have HC := Lib.hid (fun w => sort1_any y x w oy ox)
        have HZ := Lib.hid (@kF_lt y x)
        obtain ⟨z, hz⟩ : ∃ z, z = cmpK x y := ⟨_, rfl⟩
        rw [← hz] at HC HZ
        have HXE := Lib.hid hx; have HYE := Lib.hid hy
        have HPQ := Lib.hid (show mid + m - (h + 1) - m = q - m ∧ mid + m - 1 - h - m = q - m by
          obtain ⟨k1, k2, k3, k4, k5, k6, k7, k8, k9, k10, k11, k12⟩ := HN.out
          omega)
        have VV : IntKind.i64.wrap ((st : Int) + (r : Int)) = (ij : Int) ∧ IntKind.u64.wrap (ij : Int) = (ij : Int) ∧ RowKit.wrap64 ((ij : Int) / 2) = (h : Int) ∧ IntKind.i64.wrap ((p : Int) - (h : Int)) = (q : Int) := by
          have := HN.out.1; have := HN.out.2.2.2.2.1; have := HBD.out.2.2.1; have := HN.out.2.2.2.1
          refine ⟨?_, ?_, ?_, ?_⟩
          · rw [IntWalk.i64_in _ (by omega)]; omega
          · rw [IntKind.wrap_u64]; omega
          · rw [wrap64_inS _ (by omega)]; omega
          · rw [IntWalk.i64_in _ (by omega)]; omega
        clear hx hy hz ox oy hq bc1 bc2 bc3 bc4 bc5 hij hh
        obtain ⟨v1, v2, v3, v4⟩ := VV
        try go_wp2_with fail
        repeat' (first | (with_reducible refine wp_plan (id := 35) Grow [0,0,0,0,0,0,2,0,0,0,2,3,0,0] (.get 0 (.get 1 (.get 2 (.get 3 (.get 4 (.get 5 (.get 6 (.get 7 (.get 8 (.get 9 (.get 10 (.act 11 (.get 12 (.get 13 .done)))))))))))))) (by kernel_rfl) (by kernel_rfl) Grow.refl Grow.trans ?_) | go_values | go_skip | go_guarded | go_step | go_upon | go_back)
        intro w_ hd_
        have hb_ := hd_.grow
        have HB_ := Lib.hid (HB.out.grow' hb_)
        clear HB
        have HB := HB_
        clear HB_
        have HX_ := Lib.hid (HX.out.grow hb_)
        clear HX
        have HX := HX_
        clear HX_
        clear hb_ hd_
        have ch : w_.cell? ⟨g, h, none⟩ = some (.float .f64 x) := by rw [HXE.out]; exact HX.out.cell hhn
        have ca : w_.cell? ⟨g, q, none⟩ = some (.float .f64 y) := by rw [HYE.out]; exact HX.out.cell hqn
        repeat (first | (refine pl_calm rfl rfl (by first | exact wanted_none rfl | (go_simp; done) | rfl) (fun w_ => by first | (go_simp; rfl) | (go_simp; done) | rfl) (fun K hK => ?_); go_simp; refine hK _ _ ?_; clear hK K) | (refine pl_skip rfl (by first | (go_simp; done) | rfl) (fun K hK => ?_); go_simp; refine hK _ _ ?_; clear hK K) | (refine pl_skipa rfl (by first | (go_simp; done) | rfl) (fun K hK => ?_); go_simp; refine hK _ _ ?_; clear hK K) | (refine pl_load rfl rfl (by first | exact wanted_none rfl | (go_simp; done) | rfl) rfl (by first | rfl | (go_simp; rfl)) (by kernel_rfl) (by first | exact ch | exact ca) (fun K hK => ?_); go_simp; refine hK _ _ ?_; clear hK K) | (refine pl_loadnow rfl rfl (by first | exact wanted_none rfl | (go_simp; done) | rfl) rfl (by first | rfl | (go_simp; rfl)) (by kernel_rfl) (by first | exact ch | exact ca) (fun K hK => ?_); go_simp; refine hK _ _ ?_; clear hK K))
        refine pl_act rfl (by first | exact wanted_none rfl | (go_simp; done) | rfl) (fun K hK => ?_)
        go_wp2_with fail
        refine (HC.out _).mono ?_
        rintro e w_ ⟨rfl, hb_⟩
        go_wp2_with fail
        refine hK _ _ (fun _ => hb_) ?_
        clear hK K
        have HB_ := Lib.hid (HB.out.grow' hb_)
        clear HB
        have HB := HB_
        clear HB_
        have HX_ := Lib.hid (HX.out.grow hb_)
        clear HX
        have HX := HX_
        clear HX_
        clear hb_
        obtain ⟨lt, hlt'⟩ : ∃ q, q = decide (z < 0) := ⟨_, rfl⟩
        have zlt : ((z : Int) < 0) = (lt = true) := by rw [hlt']; simp
        have HLT := Lib.hid hlt'
        clear hlt'
        repeat (first | (refine pl_calm rfl rfl (by first | exact wanted_none rfl | (go_simp; done) | rfl) (fun w_ => by first | (go_simp; rfl) | (go_simp; done) | rfl) (fun K hK => ?_); go_simp; refine hK _ _ ?_; clear hK K) | (refine pl_skip rfl (by first | (go_simp; done) | rfl) (fun K hK => ?_); go_simp; refine hK _ _ ?_; clear hK K) | (refine pl_skipa rfl (by first | (go_simp; done) | rfl) (fun K hK => ?_); go_simp; refine hK _ _ ?_; clear hK K))
        refine pl_done ?_
        clear ch ca HC v1 v2 v3 v4
        clear zlt
        cases lt
        rotate_left
        · have hz0 : z < 0 := of_decide_eq_true HLT.out.symm
          have HZ2 := Lib.hid (HZ.out.2 hz0)
          clear HZ hz0 HLT
          go_wp2_with fail
          go_roundw
          case rel => exact ⟨st, h, rfl, rfl, h1, HH.out.1, by have := HH.out; omega, Lib.hid ⟨HS.out.1, .inr (by rw [HPQ.out.2, HXY.out, HYY.out]; exact HZ2.out)⟩, HX, HB⟩
          case measure => have := HH.out; simp [intOf]; omega
        · have hz0 : ¬ z < 0 := of_decide_eq_false HLT.out.symm
          have HZ2 := Lib.hid (show kF x ≤ kF y from Int.not_lt.1 (fun h => hz0 (HZ.out.1 h)))
          have q1 : IntKind.i64.wrap ((h : Int) + 1) = (h : Int) + 1 := IntWalk.i64_in _ (by have := HN.out.1; omega)
          clear HZ hz0 HLT
          go_wp2_with fail
          go_roundw
          all_goals clear q1
          case rel => exact ⟨h + 1, r, by go_num, rfl, by have := HH.out; omega, by have := HH.out; omega, h3, Lib.hid ⟨.inr (by rw [HPQ.out.1, show h + 1 - 1 - a = h - a by omega, HXY.out, HYY.out]; exact HZ2.out), HS.out.2⟩, HX, HB⟩
          case measure => have := HH.out; simp [intOf]; omega
      · obtain rfl : st = r := by omega
        clear hlt h2
        have HCP := Lib.hid (cut_parts (st := st) (r := st) HSRT.out.1 HSRT.out.2 (by have := HN.out; have := HXL.out; unfold SymN at *; omega) (by have := HN.out; have := HXL.out; unfold SymN at *; omega) (by have := HN.out; unfold SymN at *; omega) (by have := HN.out; unfold SymN at *; omega) (by have := HN.out; unfold SymN at *; omega) HI.out.ite rfl h1 h3 HS.out.1 HS.out.2)
        clear HS HBD HI HSRT HGX HGY h1 h3
        obtain ⟨X1, X2, Y1, Y2, hX12, hY12, l1, l2, l3, l4, lb, ss, hmg⟩ := HCP.out
        clear HCP
        obtain ⟨en, hen⟩ : ∃ z, z = mid + m - st := ⟨_, rfl⟩
        rw [← hen] at l4 lb
        have HL := Lib.hid (show X1.length = st - a ∧ X2.length = m - st ∧ Y1.length = mid - st ∧ Y2.length = b - en ∧ a ≤ st ∧ st ≤ m ∧ st ≤ mid ∧ en ≤ b ∧ m ≤ en ∧ mid ≤ en ∧ en + st = mid + m from ⟨l1, l2, l3, l4, lb.1, lb.2.1, lb.2.2.1, lb.2.2.2, by omega, by omega, by omega⟩)
        have HSS := Lib.hid ss; have HMG := Lib.hid hmg
        have HX2 := Lib.hid (show DAt w_ g n (P ++ X1 ++ X2 ++ Y1 ++ (Y2 ++ S)) by
          have e : xs = P ++ X1 ++ X2 ++ Y1 ++ (Y2 ++ S) := by rw [HXS.out, ← hX12, ← hY12]; simp only [List.append_assoc]
          rw [← e]; exact HX.out)
        have HOO := Lib.hid (show ∀ x ∈ P ++ X ++ Y ++ S, x < 2^64 from fun x h => HO.out x (by rw [HXS.out]; exact h))
        have HXY := Lib.hid (show X1 ++ X2 = X ∧ Y1 ++ Y2 = Y from ⟨hX12, hY12⟩)
        have v6 : IntKind.i64.wrap ((nn : Int) - (st : Int)) = (en : Int) := by
          obtain ⟨k1, k2, k3, k4, k5, k6, k7, k8, k9, k10, k11, k12⟩ := HN.out
          rw [IntWalk.i64_in _ (by omega)]; omega
        clear HX HXS HO hX12 hY12 l1 l2 l3 l4 lb ss hmg hen
        have HX := HX2
        clear HX2
        go_upto_region 39 with fail
        clear v6
        obtain ⟨zz, hzz⟩ : ∃ z, z = (decide (st < m) && decide (m < en)) := ⟨_, rfl⟩
        have HZZ := Lib.hid hzz
        clear hzz
        go_cut [185] from 186 (fun s185 wr => s185 = .bool zz ∧ wr = w_)
        case first =>
          by_cases h1 : st < m
          · by_cases h2 : m < en
            · go_wp2_with fail
              go_meet
              case rel => exact ⟨by rw [HZZ.out]; simp [h1, h2], rfl⟩
            · have h2' : en ≤ m := Nat.le_of_not_lt h2
              go_wp2_with fail
              go_meet
              case rel => exact ⟨by rw [HZZ.out]; simp [h1, h2], rfl⟩
          · have h1' : m ≤ st := Nat.le_of_not_lt h1
            go_wp2_with fail
            go_meet
            case rel => exact ⟨by rw [HZZ.out]; simp [h1], rfl⟩
        case rest =>
          obtain ⟨rfl, hw⟩ := hcut
          subst hw
          rename World => w_
          go_upto_if 185 with fail
          go_cut [] from 25 (fun wr => Hid (DAt wr g n (P ++ X1 ++ Y1 ++ (X2 ++ Y2 ++ S))) ∧ Hid (w.grownBy wr (some g)))
          case first =>
            cases zz
            · have HE := Lib.hid (show P ++ X1 ++ X2 ++ Y1 ++ (Y2 ++ S) = P ++ X1 ++ Y1 ++ (X2 ++ Y2 ++ S) by
                have hz := HZZ.out
                obtain ⟨l1, l2, l3, l4, l5, l6, l7, l8, l9, l10, l11⟩ := HL.out
                rcases Nat.lt_or_ge st m with h1 | h1
                · have h2 : ¬ m < en := fun h2 => by simp [h1, h2] at hz
                  have : Y1 = [] := List.length_eq_zero_iff.1 (by omega)
                  rw [this]; simp
                · have : X2 = [] := List.length_eq_zero_iff.1 (by omega)
                  rw [this]; simp)
              go_wp2_with fail
              go_meet
              case rel => exact ⟨Lib.hid (by rw [← HE.out]; exact HX.out), HB⟩
            · have hz := HZZ.out
              have h12 : st < m ∧ m < en := by simpa using hz
              obtain ⟨l1, l2, l3, l4, l5, l6, l7, l8, l9, l10, l11⟩ := HL.out
              have HC := Lib.hid (rotC_any (cmp := cmpV) (c := c) (a := st) (m := m) (b := en) (P := P ++ X1) (X := X2) (Y := Y1) (S := Y2 ++ S) w_ HX.out HN.out.1 (by have := HN.out.2.1; have := HXL.out; rw [List.length_append]; omega) (by omega) (by omega) (by omega) (by omega))
              clear hz h12 l1 l2 l3 l4 l5 l6 l7 l8 l9 l10 l11
              go_wp2_with fail
              refine HC.out.mono ?_
              rintro e w2_ ⟨rfl, hd2, hb2⟩
              have HX2 := Lib.hid hd2
              have HB2 := Lib.hid (gb_trans HB.out hb2)
              clear hd2 hb2 HC
              go_wp2_with fail
              go_meet
              case rel => exact ⟨Lib.hid (by have h := HX2.out; simp only [List.append_assoc] at h ⊢; exact h), HB2⟩
          case rest =>
            obtain ⟨hx', hb'⟩ := hcut
            clear HX HB HZZ
            have HX := hx'; have HB := hb'
            clear hx' hb'
            rename World => w_
            go_upto_region 41 with fail
            obtain ⟨zz, hzz⟩ : ∃ z, z = (decide (a < st) && decide (st < mid)) := ⟨_, rfl⟩
            have HZZ := Lib.hid hzz
            clear hzz
            go_cut [199] from 200 (fun s199 wr => s199 = .bool zz ∧ wr = w_)
            case first =>
              by_cases h1 : a < st
              · by_cases h2 : st < mid
                · go_wp2_with fail
                  go_meet
                  case rel => exact ⟨by rw [HZZ.out]; simp [h1, h2], rfl⟩
                · have h2' : mid ≤ st := Nat.le_of_not_lt h2
                  go_wp2_with fail
                  go_meet
                  case rel => exact ⟨by rw [HZZ.out]; simp [h1, h2], rfl⟩
              · have h1' : st ≤ a := Nat.le_of_not_lt h1
                go_wp2_with fail
                go_meet
                case rel => exact ⟨by rw [HZZ.out]; simp [h1], rfl⟩
            case rest =>
              obtain ⟨rfl, hw⟩ := hcut
              subst hw
              rename World => w_
              go_upto_if 199 with fail
              go_cut [] from 25 (fun wr => Hid (∃ Zl, Zl.Perm (X1 ++ Y1) ∧ Srt kF Zl ∧ DAt wr g n (P ++ Zl ++ X2 ++ Y2 ++ S)) ∧ Hid (w.grownBy wr (some g)))
              case first =>
                cases zz
                · have HE := Lib.hid (show Srt kF (X1 ++ Y1) by
                    have hz := HZZ.out
                    obtain ⟨l1, l2, l3, l4, l5, l6, l7, l8, l9, l10, l11⟩ := HL.out
                    rcases Nat.lt_or_ge a st with h1 | h1
                    · have h2 : ¬ st < mid := fun h2 => by simp [h1, h2] at hz
                      have : Y1 = [] := List.length_eq_zero_iff.1 (by omega)
                      rw [this, List.append_nil]; exact HSS.out.1
                    · have : X1 = [] := List.length_eq_zero_iff.1 (by omega)
                      rw [this]; exact HSS.out.2.2.1)
                  go_wp2_with fail
                  go_meet
                  case rel => exact ⟨Lib.hid ⟨X1 ++ Y1, .refl _, HE.out, by have h := HX.out; simp only [List.append_assoc] at h ⊢; exact h⟩, HB⟩
                · have HC := Lib.hid (show Calls Try.prog 30 #[.slice (some ⟨g, 0, none⟩) n c, .int .i64 (a : Nat), .int .i64 (st : Nat), .int .i64 (mid : Nat), cmpV] w_ fun e w' => e = .returned (.tuple #[]) ∧ ∃ Z, Z.Perm (X1 ++ Y1) ∧ Srt kF Z ∧ DAt w' g n (P ++ Z ++ (X2 ++ Y2 ++ S)) ∧ w_.grownBy w' (some g) by
                    have hz := HZZ.out
                    have h12 : a < st ∧ st < mid := by simpa using hz
                    obtain ⟨l1, l2, l3, l4, l5, l6, l7, l8, l9, l10, l11⟩ := HL.out
                    have hxl := HXL.out
                    have hxy := HXY.out
                    have hoo := HOO.out
                    obtain ⟨k1, k2, k3, k4, k5, k6, k7, k8, k9, k10, k11, k12⟩ := HN.out
                    refine IH.out g n c a st mid P X1 Y1 (X2 ++ Y2 ++ S) w_ HX.out k1 (by omega) (by omega) (by omega) (by omega) (by omega) HSS.out.1 HSS.out.2.2.1 (fun x hx => hoo x ?_) (by omega)
                    rw [← hxy.1, ← hxy.2]
                    simp only [List.mem_append] at hx ⊢
                    rcases hx with ((h | h) | h) | ((h | h) | h)
                    · exact .inl (.inl (.inl h))
                    · exact .inl (.inl (.inr (.inl h)))
                    · exact .inl (.inr (.inl h))
                    · exact .inl (.inl (.inr (.inr h)))
                    · exact .inl (.inr (.inr h))
                    · exact .inr h)
                  go_wp2_with fail
                  refine HC.out.mono ?_
                  rintro e w2_ ⟨rfl, Z, hz1, hz2, hd2, hb2⟩
                  have HX2 := Lib.hid hd2
                  have HB2 := Lib.hid (gb_trans HB.out hb2)
                  have HZP := Lib.hid (show Z.Perm (X1 ++ Y1) ∧ Srt kF Z from ⟨hz1, hz2⟩)
                  clear hd2 hb2 HC hz1 hz2
                  go_wp2_with fail
                  go_meet
                  case rel => exact ⟨Lib.hid ⟨Z, HZP.out.1, HZP.out.2, by have h := HX2.out; simp only [List.append_assoc] at h ⊢; exact h⟩, HB2⟩
              case rest =>
                obtain ⟨hx', hb'⟩ := hcut
                obtain ⟨Zl, hz1, hz2, hd'⟩ := hx'.out
                clear HX HB HZZ hx'
                have HX := Lib.hid hd'; have HB := hb'
                have HZP := Lib.hid (show Zl.Perm (X1 ++ Y1) ∧ Srt kF Zl from ⟨hz1, hz2⟩)
                clear hd' hb' hz1 hz2
                rename World => w_
                go_upto_region 43 with fail
                obtain ⟨zz, hzz⟩ : ∃ z, z = (decide (mid < en) && decide (en < b)) := ⟨_, rfl⟩
                have HZZ := Lib.hid hzz
                clear hzz
                go_cut [213] from 214 (fun s213 wr => s213 = .bool zz ∧ wr = w_)
                case first =>
                  by_cases h1 : mid < en
                  · by_cases h2 : en < b
                    · go_wp2_with fail
                      go_meet
                      case rel => exact ⟨by rw [HZZ.out]; simp [h1, h2], rfl⟩
                    · have h2' : b ≤ en := Nat.le_of_not_lt h2
                      go_wp2_with fail
                      go_meet
                      case rel => exact ⟨by rw [HZZ.out]; simp [h1, h2], rfl⟩
                  · have h1' : en ≤ mid := Nat.le_of_not_lt h1
                    go_wp2_with fail
                    go_meet
                    case rel => exact ⟨by rw [HZZ.out]; simp [h1], rfl⟩
                case rest =>
                  obtain ⟨rfl, hw⟩ := hcut
                  subst hw
                  rename World => w_
                  cases zz
                  · have HE := Lib.hid (show Srt kF (X2 ++ Y2) by
                      have hz := HZZ.out
                      obtain ⟨l1, l2, l3, l4, l5, l6, l7, l8, l9, l10, l11⟩ := HL.out
                      rcases Nat.lt_or_ge mid en with h1 | h1
                      · have h2 : ¬ en < b := fun h2 => by simp [h1, h2] at hz
                        have : Y2 = [] := List.length_eq_zero_iff.1 (by omega)
                        rw [this, List.append_nil]; exact HSS.out.2.1
                      · have : X2 = [] := List.length_eq_zero_iff.1 (by omega)
                        rw [this]; exact HSS.out.2.2.2)
                    have HM := Lib.hid (HMG.out Zl (X2 ++ Y2) HZP.out.1 (.refl _) HZP.out.2 HE.out)
                    go_wp2_with fail
                    go_end0
                    exact ⟨rfl, _, HM.out.1, HM.out.2, by have h := HX.out; simp only [List.append_assoc] at h ⊢; exact h, HB.out⟩
                  · have HC := Lib.hid (show Calls Try.prog 30 #[.slice (some ⟨g, 0, none⟩) n c, .int .i64 (mid : Nat), .int .i64 (en : Nat), .int .i64 (b : Nat), cmpV] w_ fun e w' => e = .returned (.tuple #[]) ∧ ∃ Z, Z.Perm (X2 ++ Y2) ∧ Srt kF Z ∧ DAt w' g n (P ++ Zl ++ Z ++ S) ∧ w_.grownBy w' (some g) by
                      have hz := HZZ.out
                      have h12 : mid < en ∧ en < b := by simpa using hz
                      obtain ⟨l1, l2, l3, l4, l5, l6, l7, l8, l9, l10, l11⟩ := HL.out
                      have hxl := HXL.out
                      have hzl := HZP.out.1.length_eq
                      rw [List.length_append] at hzl
                      obtain ⟨k1, k2, k3, k4, k5, k6, k7, k8, k9, k10, k11, k12⟩ := HN.out
                      exact IH.out g n c mid en b (P ++ Zl) X2 Y2 S w_ HX.out k1 (by rw [List.length_append]; omega) (by omega) (by omega) (by omega) (by omega) HSS.out.2.1 HSS.out.2.2.2 (sym_mem HOO.out HXY.out.1 HXY.out.2 HZP.out.1) (by omega))
                    go_wp2_with fail
                    refine HC.out.mono ?_
                    rintro e w2_ ⟨rfl, Z, hz1, hz2, hd2, hb2⟩
                    have HX2 := Lib.hid hd2
                    have HB2 := Lib.hid (gb_trans HB.out hb2)
                    have HM := Lib.hid (HMG.out Zl Z HZP.out.1 hz1 HZP.out.2 hz2)
                    clear hd2 hb2 HC hz1 hz2
                    go_wp2_with fail
                    go_end0
                    exact ⟨rfl, _, HM.out.1, HM.out.2, by have h := HX2.out; simp only [List.append_assoc] at h ⊢; exact h, HB2.out⟩
theorem symM_any : ∀ d, SymOK d
  | 0 => fun g n c a m b P X Y S w hd hn ha hm hb hx0 hy0 hx hy ho hdd => absurd hdd (by omega)
  | d + 1 => fun g n c a m b P X Y S w hd hn ha hm hb hx0 hy0 hx hy ho hdd => by
    by_cases hx1 : X.length = 1
    · obtain ⟨u, rfl⟩ := List.length_eq_one_iff.1 hx1
      exact symL_any w hd hn ha (by rw [hm]; rfl) hb hy ho
    by_cases hy1 : Y.length = 1
    · obtain ⟨v, rfl⟩ := List.length_eq_one_iff.1 hy1
      exact symR_any w hd hn ha hm (by rw [hb]; rfl) hx1 hx ho
    have hbn : b ≤ n := by have := hd.len; simp only [List.length_append] at this; omega
    have e1 : ∀ h, a ≤ h → h < m → (P ++ X ++ Y ++ S).getD h 0 = X.getD (h - a) 0 := fun h h1 h2 => by
      have e := getD_mid (P := P) (X := X) (S := Y ++ S) (i := h - a) (by omega)
      rw [show P.length + (h - a) = h by omega] at e
      rw [← e]; simp only [List.append_assoc]
    have e2 : ∀ h, m ≤ h → h < b → (P ++ X ++ Y ++ S).getD h 0 = Y.getD (h - m) 0 := fun h h1 h2 => by
      have e := getD_mid (P := P ++ X) (X := Y) (S := S) (i := h - m) (by omega)
      rw [List.length_append, show P.length + X.length + (h - m) = h by omega] at e
      exact e
    have hI : ∃ s0 r0, SymI m b ((a + b) / 2) a s0 r0 := by
      by_cases hm : (a + b) / 2 < m
      · exact ⟨_, _, fun _ => ⟨rfl, rfl⟩, fun h => absurd h (by omega)⟩
      · exact ⟨_, _, fun h => absurd h hm, fun _ => ⟨rfl, rfl⟩⟩
    obtain ⟨s0, r0, hI⟩ := hI
    exact symM_core (Lib.hid (symM_any d)) w w (Lib.hid hd) (Lib.hid (World.grownBy.refl _ _)) (p := (a + b) / 2 + m - 1) (Lib.hid ⟨hn, ha, hm, hb, hbn, by omega, by omega, hdd, rfl, rfl, rfl, by omega⟩) (Lib.hid hI) (Lib.hid ⟨rfl, rfl, rfl⟩) (Lib.hid ⟨hx, hy⟩) (Lib.hid rfl) (Lib.hid ho) (Lib.hid e1) (Lib.hid e2)
end Go.Proofs.Ytccigmpbcjlogaa

/- slices.insertionSortCmpFunc at floats: a range is sorted in its place. -/
namespace Go.Proofs.Ytccigmpbcjlogaa
open Go.RowKit
set_option linter.unusedVariables false
theorem shf_at {P Y S : List Nat} {u s : Nat} (hs : s ≤ Y.length) : (shf P Y S u s).getD (P.length + s) 0 = u := by
  unfold shf
  rw [List.getD_eq_getElem?_getD, List.append_assoc, List.getElem?_append_right (by omega), show P.length + s - P.length = s by omega, List.append_assoc, List.getElem?_append_right (by rw [List.length_take]; omega), List.length_take, Nat.min_eq_left hs, Nat.sub_self]
  rfl
theorem shf_before {P Y S : List Nat} {u s : Nat} (h0 : 0 < s) (hs : s ≤ Y.length) : (shf P Y S u s).getD (P.length + s - 1) 0 = Y.getD (s - 1) 0 := by
  unfold shf
  rw [List.getD_eq_getElem?_getD, List.getD_eq_getElem?_getD, List.append_assoc, List.getElem?_append_right (by omega), show P.length + s - 1 - P.length = s - 1 by omega, List.append_assoc, List.getElem?_append_left (by rw [List.length_take]; omega), List.getElem?_take, if_pos (by omega)]
/-- Sorted as far as k. -/
def InsI (a k : Nat) (P X S l : List Nat) : Prop := ∃ Z R, l = P ++ Z ++ R ++ S ∧ (Z ++ R).Perm X ∧ Srt kF Z ∧ Z.length = min (k - a) X.length
theorem InsI.start {a : Nat} {P X S : List Nat} : InsI a (a + 1) P X S (P ++ X ++ S) := by
  refine ⟨X.take 1, X.drop 1, by rw [show P ++ X.take 1 ++ X.drop 1 ++ S = P ++ (X.take 1 ++ X.drop 1) ++ S by simp only [List.append_assoc], List.take_append_drop], by rw [List.take_append_drop], ?_, by rw [List.length_take]; omega⟩
  cases X <;> simp [Srt]
theorem InsI.done {a k : Nat} {P X S l : List Nat} (h : InsI a k P X S l) (hk : X.length ≤ k - a) : ∃ Z, Z.Perm X ∧ Srt kF Z ∧ l = P ++ Z ++ S := by
  obtain ⟨Z, R, rfl, hp, hs, hl⟩ := h
  have e := hp.length_eq
  rw [List.length_append] at e
  have : R = [] := List.length_eq_zero_iff.1 (by omega)
  subst this
  exact ⟨Z, by simpa using hp, hs, by simp⟩
theorem InsI.next {a k : Nat} {P X S l : List Nat} (h : InsI a k P X S l) (ha : a = P.length) (hk : k - a < X.length) (h1 : a ≤ k) : ∃ Z v T, Z.length = k - a ∧ Srt kF Z ∧ l = shf P Z T v (k - a) ∧ v ∈ X ∧ (∀ z ∈ Z, z ∈ X) ∧ ∀ s, s ≤ Z.length → (s = 0 ∨ ky kF Z (s - 1) ≤ kF v) → (s = Z.length ∨ kF v < ky kF Z s) → InsI a (k + 1) P X S (shf P Z T v s) := by
  obtain ⟨Z, R, rfl, hp, hs, hl⟩ := h
  have e := hp.length_eq
  rw [List.length_append] at e
  cases R with
  | nil => simp at e; omega
  | cons v R =>
    refine ⟨Z, v, R ++ S, by omega, hs, ?_, hp.mem_iff.1 (by simp), fun z hz => hp.mem_iff.1 (by simp [hz]), fun s h1 h2 h3 => ?_⟩
    · unfold shf
      rw [List.take_of_length_le (by omega), List.drop_of_length_le (by omega)]; simp
    · have i := ins_right hs h1 h2 h3
      refine ⟨Z.take s ++ v :: Z.drop s, R, by unfold shf; simp, ?_, i.2, ?_⟩
      · refine (i.1.append_right R).trans ?_
        simpa using hp
      · rw [i.1.length_eq, List.length_append, List.length_singleton]; simp only [List.length_cons] at e; omega
set_option maxRecDepth 100000 in
set_option maxHeartbeats 8000000 in
theorem insC_any {g n c a b : Nat} {P X S : List Nat} (w : World) (hd : DAt w g n (P ++ X ++ S)) (hn : n ≤ 1000000) (ha : a = P.length) (hb : b = a + X.length) (ho : ∀ x ∈ X, x < 2^64) :
    Calls Try.prog 29 #[.slice (some ⟨g, 0, none⟩) n c, .int .i64 (a : Nat), .int .i64 (b : Nat), cmpV] w fun e w' => e = .returned (.tuple #[]) ∧ ∃ Z, Z.Perm X ∧ Srt kF Z ∧ DAt w' g n (P ++ Z ++ S) ∧ w.grownBy w' (some g) := by
  have HN := Lib.hid hn
  have HBN := Lib.hid (show b ≤ n by have := hd.len; simp only [List.length_append] at this; omega)
  have HX := Lib.hid hd
  have HA := Lib.hid ha; have HBB := Lib.hid hb; have HO := Lib.hid ho
  have HI := Lib.hid (InsI.start (a := a) (P := P) (X := X) (S := S))
  obtain ⟨l0, hl0⟩ : ∃ z, z = P ++ X ++ S := ⟨_, rfl⟩
  rw [← hl0] at HX HI
  clear hd hn ha hb ho hl0
  have v0 : IntKind.i64.wrap ((a : Int) + 1) = (a : Int) + 1 := IntWalk.i64_in _ (by have := HBN.out; have := HN.out; have := HBB.out; omega)
  obtain ⟨w_, hw⟩ : ∃ x, x = w := ⟨_, rfl⟩
  have HB := Lib.hid (show w.grownBy w_ (some g) by rw [hw]; exact World.grownBy.refl _ _)
  rw [← hw] at HX
  suffices H : Calls Try.prog 29 #[.slice (some ⟨g, 0, none⟩) n c, .int .i64 (a : Nat), .int .i64 (b : Nat), cmpV] w_ fun e w' => e = .returned (.tuple #[]) ∧ ∃ Z, Z.Perm X ∧ Srt kF Z ∧ DAt w' g n (P ++ Z ++ S) ∧ w.grownBy w' (some g) by rw [hw] at H; exact H
  clear hw
  go_enter Try.func29, Try.ntmps29
  go_wp2_with fail
  clear v0
  go_loopw [8] (fun s8 wr => ∃ (k : Nat) (l : List Nat), s8 = .int .i64 k ∧ a + 1 ≤ k ∧ k ≤ a + 1 + n ∧ Hid (InsI a k P X S l) ∧ Hid (DAt wr g n l) ∧ Hid (w.grownBy wr (some g))) (fun s8 _ => b - (intOf s8).toNat)
  case atStart => exact ⟨a + 1, l0, by go_num, Nat.le_refl _, by omega, HI, HX, HB⟩
  case round =>
    obtain ⟨k, l, rfl, hk1, hk2, hi, hd, hb⟩ := hrel
    clear HX HB HI
    have HX := hd; have HB := hb; have HI := hi
    clear hb hd hi
    rename World => w_
    by_cases hlt : k < b
    · obtain ⟨Z, v, T, hz1, hz2, hz3, hz4, hz5, hz6⟩ := HI.out.next HA.out (by have := HBB.out; omega) (by omega)
      have HZ := Lib.hid hz1; have HZS := Lib.hid hz2; have HZN := Lib.hid hz6
      have HV := Lib.hid (HO.out v hz4); have HZO := Lib.hid (fun z hz => HO.out z (hz5 z hz))
      obtain ⟨f, hf⟩ : ∃ f, f = fun j => shf P Z T v (j - a) := ⟨_, rfl⟩
      have HX2 := Lib.hid (show DAt w_ g n (f k) by rw [hf]; rw [hz3] at HX; exact HX.out)
      have HST2 := Lib.hid (show ∀ j, a ≤ j → j < k → xch (f (j + 1)) (j + 1) j = f j by
        intro j h1 h2
        have h := shf_back (P := P) (S := T) (u := v) (s := j - a) (Y := Z) (by omega)
        rw [← HA.out, show a + (j - a) = j by omega, show j - a + 1 = j + 1 - a by omega] at h
        rw [hf]; exact h)
      have HF := Lib.hid (show ∀ j, a ≤ j → j ≤ k → (f j).getD j 0 = v ∧ (a < j → (f j).getD (j - 1) 0 = Z.getD (j - 1 - a) 0) by
        intro j h1 h2
        rw [hf]
        constructor
        · have h := shf_at (P := P) (S := T) (u := v) (s := j - a) (Y := Z) (by omega)
          rw [← HA.out, show a + (j - a) = j by omega] at h
          exact h
        · intro h3
          have h := shf_before (P := P) (S := T) (u := v) (s := j - a) (Y := Z) (by omega) (by omega)
          rw [← HA.out, show a + (j - a) - 1 = j - 1 by omega, show j - a - 1 = j - 1 - a by omega] at h
          exact h)
      have HFN := Lib.hid (show ∀ j, a ≤ j → j ≤ k → (j = a ∨ ky kF Z (j - 1 - a) ≤ kF v) → (j = k ∨ kF v < ky kF Z (j - a)) → InsI a (k + 1) P X S (f j) by
        intro j h1 h2 h3 h4
        rw [hf]
        refine hz6 (j - a) (by omega) ?_ ?_
        · rcases h3 with h3 | h3
          · exact .inl (by omega)
          · exact .inr (by rw [show j - a - 1 = j - 1 - a by omega]; exact h3)
        · rcases h4 with h4 | h4
          · exact .inl (by omega)
          · exact .inr h4)
      have hkn : k < n := by have := HBN.out; omega
      clear hz1 hz2 hz3 hz4 hz5 hz6 hf HI HX
      have HX := HX2
      clear HX2 HZN
      have hka : a ≤ k := by omega
      go_wp2_with fail
      go_loopw [9] (fun s9 wr => ∃ j : Nat, s9 = .int .i64 j ∧ a ≤ j ∧ j ≤ k ∧ Hid (j = k ∨ kF v < ky kF Z (j - a)) ∧ Hid (DAt wr g n (f j)) ∧ Hid (w.grownBy wr (some g))) (fun s9 _ => (intOf s9).toNat - a)
      case atStart => exact ⟨k, rfl, hka, Nat.le_refl _, Lib.hid (.inl rfl), HX, HB⟩
      case round =>
        obtain ⟨j, rfl, hj1, hj2, hs, hd, hb⟩ := hrel
        clear HX HB
        have HX := hd; have HB := hb; have HS := hs
        clear hb hd hs
        rename World => w_
        by_cases hja : a < j
        · obtain ⟨j1, hj1'⟩ : ∃ z, z = j - 1 := ⟨_, rfl⟩
          obtain ⟨x, hx⟩ : ∃ z, z = Z.getD (j - 1 - a) 0 := ⟨_, rfl⟩
          have ox : x < 2^64 := HZO.out x (by rw [hx, List.getD_eq_getElem?_getD, List.getElem?_eq_getElem (by have := HZ.out; omega)]; exact List.getElem_mem _)
          have HC := Lib.hid (fun w => sort1_any v x w HV.out ox)
          have HZ2 := Lib.hid (@kF_lt v x)
          obtain ⟨z, hz⟩ : ∃ z, z = cmpK x v := ⟨_, rfl⟩
          rw [← hz] at HC HZ2
          have HXY := Lib.hid (show ky kF Z (j1 - a) = kF x by unfold ky; rw [hj1', hx])
          have HXE := Lib.hid (show (f j).getD j1 0 = x by rw [hj1', hx]; exact (HF.out j hj1 hj2).2 hja)
          have HVE := Lib.hid ((HF.out j hj1 hj2).1)
          have v2 : IntKind.i64.wrap ((j : Int) - 1) = (j1 : Int) := by rw [hj1', IntWalk.i64_in _ (by have := HN.out; omega)]; omega
          have hA : j < n := by omega
          have hB : j1 < n := by clear v2; omega
          have HE := Lib.hid (HST2.out j1 (by clear v2; omega) (by clear v2; omega))
          have HK1 := Lib.hid hj1'
          have HJ := Lib.hid (show a ≤ j1 ∧ j1 ≤ k ∧ j = j1 + 1 by clear v2; exact ⟨by omega, by omega, by omega⟩)
          rw [show j1 + 1 = j by clear v2; omega] at HE
          have HL := Lib.hid HX.out.len
          clear hx hz ox hj1'
          have hji : (a : Int) < (j : Int) := by clear v2; omega
          try go_wp2_with fail
          repeat' (first | (with_reducible refine wp_plan (id := 4) Grow [0,0,0,0,0,0,0,0,2,0,0,0,0,2,3,0,0] (.get 0 (.get 1 (.get 2 (.get 3 (.get 4 (.get 5 (.get 6 (.get 7 (.get 8 (.get 9 (.get 10 (.get 11 (.get 12 (.get 13 (.act 14 (.get 15 (.get 16 .done))))))))))))))))) (by kernel_rfl) (by kernel_rfl) Grow.refl Grow.trans ?_) | go_values | go_skip | go_guarded | go_step | go_upon | go_back)
          intro w_ hd_
          have hb_ := hd_.grow
          have HB_ := Lib.hid (HB.out.grow' hb_)
          clear HB
          have HB := HB_
          clear HB_
          have HX_ := Lib.hid (HX.out.grow hb_)
          clear HX
          have HX := HX_
          clear HX_
          clear hb_ hd_
          have ca : w_.cell? ⟨g, j, none⟩ = some (.float .f64 v) := by rw [← HVE.out]; exact HX.out.cell hA
          have ch : w_.cell? ⟨g, j1, none⟩ = some (.float .f64 x) := by rw [← HXE.out]; exact HX.out.cell hB
          repeat (first | (refine pl_calm rfl rfl (by first | exact wanted_none rfl | (go_simp; done) | rfl) (fun w_ => by first | (go_simp; rfl) | (go_simp; done) | rfl) (fun K hK => ?_); go_simp; refine hK _ _ ?_; clear hK K) | (refine pl_skip rfl (by first | (go_simp; done) | rfl) (fun K hK => ?_); go_simp; refine hK _ _ ?_; clear hK K) | (refine pl_skipa rfl (by first | (go_simp; done) | rfl) (fun K hK => ?_); go_simp; refine hK _ _ ?_; clear hK K) | (refine pl_load rfl rfl (by first | exact wanted_none rfl | (go_simp; done) | rfl) rfl (by first | rfl | (go_simp; rfl)) (by kernel_rfl) (by first | exact ca | exact ch) (fun K hK => ?_); go_simp; refine hK _ _ ?_; clear hK K) | (refine pl_loadnow rfl rfl (by first | exact wanted_none rfl | (go_simp; done) | rfl) rfl (by first | rfl | (go_simp; rfl)) (by kernel_rfl) (by first | exact ca | exact ch) (fun K hK => ?_); go_simp; refine hK _ _ ?_; clear hK K))
          refine pl_act rfl (by first | exact wanted_none rfl | (go_simp; done) | rfl) (fun K hK => ?_)
          go_wp2_with fail
          refine (HC.out _).mono ?_
          rintro e w_ ⟨rfl, hb_⟩
          go_wp2_with fail
          refine hK _ _ (fun _ => hb_) ?_
          clear hK K
          have HB_ := Lib.hid (HB.out.grow' hb_)
          clear HB
          have HB := HB_
          clear HB_
          have HX_ := Lib.hid (HX.out.grow hb_)
          clear HX
          have HX := HX_
          clear HX_
          clear hb_
          obtain ⟨lt, hlt'⟩ : ∃ q, q = decide (z < 0) := ⟨_, rfl⟩
          have zlt : ((z : Int) < 0) = (lt = true) := by rw [hlt']; simp
          have HLT := Lib.hid hlt'
          clear hlt'
          repeat (first | (refine pl_calm rfl rfl (by first | exact wanted_none rfl | (go_simp; done) | rfl) (fun w_ => by first | (go_simp; rfl) | (go_simp; done) | rfl) (fun K hK => ?_); go_simp; refine hK _ _ ?_; clear hK K) | (refine pl_skip rfl (by first | (go_simp; done) | rfl) (fun K hK => ?_); go_simp; refine hK _ _ ?_; clear hK K) | (refine pl_skipa rfl (by first | (go_simp; done) | rfl) (fun K hK => ?_); go_simp; refine hK _ _ ?_; clear hK K))
          refine pl_done ?_
          clear ch ca HC
          clear zlt
          cases lt
          · have hz0 : ¬ z < 0 := of_decide_eq_false HLT.out.symm
            have HZ3 := Lib.hid (show kF x ≤ kF v from Int.not_lt.1 (fun h => hz0 (HZ2.out.1 h)))
            have HQ := Lib.hid (HFN.out j hj1 hj2 (.inr (by rw [← HK1.out, HXY.out]; exact HZ3.out)) HS.out)
            have q1 : IntKind.i64.wrap ((k : Int) + 1) = (k : Int) + 1 := IntWalk.i64_in _ (by clear v2; have := HN.out; omega)
            clear HZ2 hz0 HLT v2
            go_wp2_with fail
            go_roundw
            all_goals clear q1
            case rel => exact ⟨k + 1, f j, by go_num, by omega, by omega, HQ, HX, HB⟩
            case measure => simp [intOf]; omega
          · have hz0 : z < 0 := of_decide_eq_true HLT.out.symm
            have HZ3 := Lib.hid (HZ2.out.2 hz0)
            clear HZ2 hz0 HLT
            obtain ⟨xs, hxs⟩ : ∃ z, z = f j := ⟨_, rfl⟩
            rw [← hxs] at HX HE HL HXE HVE
            clear hxs
            go_upto_region 6 with fail
            try go_wp2_with fail
            repeat' (first | (with_reducible refine wp_plan (id := 6) Grow [0,0,0,0,0,0,0,0,0,2,0,0,0,2,0,3,0,3] (.get 0 (.get 1 (.get 2 (.get 3 (.get 4 (.get 5 (.get 6 (.get 7 (.get 8 (.get 9 (.get 10 (.get 11 (.get 12 (.get 13 (.get 14 (.act 15 (.get 16 (.act 17 .done)))))))))))))))))) (by kernel_rfl) (by kernel_rfl) Grow.refl Grow.trans ?_) | go_values | go_skip | go_guarded | go_step | go_upon | go_back)
            intro w_ hd_
            have hb_ := hd_.grow
            have HB_ := Lib.hid (HB.out.grow' hb_)
            clear HB
            have HB := HB_
            clear HB_
            have HX_ := Lib.hid (HX.out.grow hb_)
            clear HX
            have HX := HX_
            clear HX_
            clear hb_ hd_
            have ca : w_.cell? ⟨g, j, none⟩ = some (.float .f64 v) := by rw [← HVE.out]; exact HX.out.cell hA
            have cb : w_.cell? ⟨g, j1, none⟩ = some (.float .f64 x) := by rw [← HXE.out]; exact HX.out.cell hB
            repeat (first | (refine pl_calm rfl rfl (by first | exact wanted_none rfl | (go_simp; done) | rfl) (fun w_ => by first | (go_simp; rfl) | (go_simp; done) | rfl) (fun K hK => ?_); go_simp; refine hK _ _ ?_; clear hK K) | (refine pl_skip rfl (by first | (go_simp; done) | rfl) (fun K hK => ?_); go_simp; refine hK _ _ ?_; clear hK K) | (refine pl_skipa rfl (by first | (go_simp; done) | rfl) (fun K hK => ?_); go_simp; refine hK _ _ ?_; clear hK K) | (refine pl_load rfl rfl (by first | exact wanted_none rfl | (go_simp; done) | rfl) rfl (by first | rfl | (go_simp; rfl)) (by kernel_rfl) (by first | exact ca | exact cb) (fun K hK => ?_); go_simp; refine hK _ _ ?_; clear hK K) | (refine pl_loadnow rfl rfl (by first | exact wanted_none rfl | (go_simp; done) | rfl) rfl (by first | rfl | (go_simp; rfl)) (by kernel_rfl) (by first | exact ca | exact cb) (fun K hK => ?_); go_simp; refine hK _ _ ?_; clear hK K))
            refine pl_act rfl (by exact wanted_none rfl) (fun K hK => ?_)
            show wpList _ _ _ [⟨none, .store _ _ _, _, _, _, _⟩] _ _
            obtain ⟨T, hT⟩ := HX.out.tail
            have HT := Lib.hid hT
            clear hT
            have hl1 : j < (xs.map Fv ++ T).length := by rw [List.length_append, List.length_map, HL.out]; exact Nat.lt_add_right _ hA
            go_wp2_with (first | (refine wpl_store1 (o := ⟨none, .store _ _ _, _, _, _, _⟩) rfl rfl HT.out rfl rfl (by kernel_rfl) rfl rfl hl1 ?_))
            intro w2_ hb2_ hg2_ hsz2_
            clear hl1
            go_wp2_with fail
            refine hK _ _ (fun h => absurd h (by decide)) ?_
            clear hK K
            have HB2 := Lib.hid (gb_trans HB.out hg2_)
            have HX2 := Lib.hid hb2_
            clear HX HB hb2_ hg2_ hsz2_ ca cb
            repeat (first | (refine pl_calm rfl rfl (by first | exact wanted_none rfl | (go_simp; done) | rfl) (fun w_ => by first | (go_simp; rfl) | (go_simp; done) | rfl) (fun K hK => ?_); go_simp; refine hK _ _ ?_; clear hK K) | (refine pl_skip rfl (by first | (go_simp; done) | rfl) (fun K hK => ?_); go_simp; refine hK _ _ ?_; clear hK K) | (refine pl_skipa rfl (by first | (go_simp; done) | rfl) (fun K hK => ?_); go_simp; refine hK _ _ ?_; clear hK K))
            refine pl_act rfl (by exact wanted_none rfl) (fun K hK => ?_)
            show wpList _ _ _ [⟨none, .store _ _ _, _, _, _, _⟩] _ _
            have hl1 : j1 < ((xs.map Fv ++ T).set j (Fv x)).length := by rw [List.length_set, List.length_append, List.length_map, HL.out]; exact Nat.lt_add_right _ hB
            go_wp2_with (first | (refine wpl_store1 (o := ⟨none, .store _ _ _, _, _, _, _⟩) rfl rfl HX2.out rfl rfl (by kernel_rfl) rfl rfl hl1 ?_))
            intro w3_ hb2_ hg2_ hsz2_
            clear hl1
            go_wp2_with fail
            refine hK _ _ (fun h => absurd h (by decide)) ?_
            clear hK K
            have HB3 := Lib.hid (gb_trans HB2.out hg2_)
            have HX3 := Lib.hid (show DAt w3_ g n (f j1) by rw [← HE.out]; rw [← HXE.out, ← HVE.out] at hb2_; exact DAt.set2 hb2_ HL.out hA hB)
            clear HX2 HB2 hb2_ hg2_ hsz2_
            refine pl_done ?_
            go_wp2_with fail
            go_roundw
            all_goals clear v2
            case rel => exact ⟨j1, by first | rfl | go_num, HJ.out.1, HJ.out.2.1, Lib.hid (.inr (by rw [HXY.out]; exact HZ3.out)), HX3, HB3⟩
            case measure => have := HJ.out; simp [intOf]; omega
        · obtain rfl : j = a := by omega
          have HQ := Lib.hid (HFN.out j hj1 hj2 (.inl rfl) HS.out)
          have q1 : IntKind.i64.wrap ((k : Int) + 1) = (k : Int) + 1 := IntWalk.i64_in _ (by have := HN.out; omega)
          try go_wp2_with fail
          repeat' (first | (with_reducible refine wp_plan (id := 4) Grow [0,0,0,0,0,0,0,0,2,0,0,0,0,2,3,0,0] (.get 0 (.get 1 (.get 2 (.get 3 (.get 4 (.get 5 (.get 6 (.get 7 (.get 8 (.get 9 (.get 10 (.get 11 (.get 12 (.get 13 (.act 14 (.get 15 (.get 16 .done))))))))))))))))) (by kernel_rfl) (by kernel_rfl) Grow.refl Grow.trans ?_) | go_values | go_skip | go_guarded | go_step | go_upon | go_back)
          intro w_ hd_
          have hb_ := hd_.grow
          have HB_ := Lib.hid (HB.out.grow' hb_)
          clear HB
          have HB := HB_
          clear HB_
          have HX_ := Lib.hid (HX.out.grow hb_)
          clear HX
          have HX := HX_
          clear HX_
          clear hb_ hd_
          repeat (first | (refine pl_calm rfl rfl (by first | exact wanted_none rfl | (go_simp; done) | rfl) (fun w_ => by first | (go_simp; rfl) | (go_simp; done) | rfl) (fun K hK => ?_); go_simp; refine hK _ _ ?_; clear hK K) | (refine pl_skip rfl (by first | (go_simp; done) | rfl) (fun K hK => ?_); go_simp; refine hK _ _ ?_; clear hK K) | (refine pl_skipa rfl (by first | (go_simp; done) | rfl) (fun K hK => ?_); go_simp; refine hK _ _ ?_; clear hK K))
          refine pl_done ?_
          go_wp2_with fail
          go_roundw
          all_goals clear q1
          case rel => exact ⟨k + 1, f j, by go_num, by omega, by omega, HQ, HX, HB⟩
          case measure => simp [intOf]; omega
    · obtain ⟨Z, h1, h2, h3⟩ := HI.out.done (by have := HBB.out; omega)
      have HR := Lib.hid (show Z.Perm X ∧ Srt kF Z from ⟨h1, h2⟩)
      rw [h3] at HX
      clear h1 h2 h3 HI
      go_wp2_with fail
      go_end0
      exact ⟨rfl, Z, HR.out.1, HR.out.2, HX.out, HB.out⟩
end Go.Proofs.Ytccigmpbcjlogaa

/- Runs that are sorted, and of one length (plain). -/
namespace Go.Proofs.Ytccigmpbcjlogaa
set_option linter.unusedVariables false
inductive Full (k : Nat) : List Nat → Prop
  | nil : Full k []
  | snoc {P X : List Nat} : Full k P → X.length = k → Srt kF X → Full k (P ++ X)
inductive Runs (k : Nat) : List Nat → Prop
  | last {X : List Nat} : X.length ≤ k → Srt kF X → Runs k X
  | cons {X l : List Nat} : X.length = k → Srt kF X → Runs k l → Runs k (X ++ l)
theorem Full.runs {k : Nat} {P : List Nat} (h : Full k P) : ∀ {l}, Runs k l → Runs k (P ++ l) := by
  induction h with
  | nil => intro l hl; exact hl
  | snoc hp hx hs ih => intro l hl; rw [List.append_assoc]; exact ih (.cons hx hs hl)
theorem Runs.one {k : Nat} {R : List Nat} (h : Runs k R) (hl : R.length ≤ k) : Srt kF R := by
  cases h with
  | last h1 h2 => exact h2
  | cons h1 h2 h3 =>
    rename_i X l
    rw [List.length_append] at hl
    have : l = [] := List.length_eq_zero_iff.1 (by omega)
    rw [this, List.append_nil]; exact h2
theorem Runs.rest {k : Nat} {R : List Nat} (h : Runs k R) (hl : k < R.length) (h2 : R.length ≤ 2 * k) : ∃ X Y, R = X ++ Y ∧ X.length = k ∧ Srt kF X ∧ Srt kF Y ∧ 0 < Y.length := by
  cases h with
  | last h1 _ => omega
  | cons h1 h4 h3 =>
    rename_i X l
    rw [List.length_append] at hl h2
    exact ⟨X, l, rfl, h1, h4, h3.one (by omega), by omega⟩
theorem Runs.two {k : Nat} {R : List Nat} (h : Runs k R) (h0 : 0 < k) (hl : 2 * k ≤ R.length) : ∃ X Y S, R = X ++ Y ++ S ∧ X.length = k ∧ Y.length = k ∧ Srt kF X ∧ Srt kF Y ∧ Runs k S := by
  cases h with
  | last h1 _ => omega
  | cons h1 h2 h3 =>
    rename_i X l
    rw [List.length_append] at hl
    cases h3 with
    | last h4 h5 => exact ⟨X, l, [], by simp, h1, by omega, h2, h5, .last (by simp) (by simp [Srt])⟩
    | cons h4 h5 h6 =>
      rename_i Y l
      exact ⟨X, Y, l, by simp, h1, h4, h2, h5, h6⟩
/-- Loop one: what is done is in runs of k; the rest is to come. -/
def StA (k a n : Nat) (L l : List Nat) : Prop := ∃ P R, l = P ++ R ∧ P.length = a ∧ Full k P ∧ l.Perm L ∧ a + R.length = n
theorem StA.start {k n : Nat} {L : List Nat} (hn : L.length = n) : StA k 0 n L L := ⟨[], L, rfl, rfl, .nil, .refl _, by omega⟩
theorem StA.parts {k a n : Nat} {L l : List Nat} (h : StA k a n L l) (hb : a + k ≤ n) : ∃ P X S, l = P ++ X ++ S ∧ P.length = a ∧ X.length = k ∧ (∀ x ∈ X, x ∈ L) ∧ ∀ Z : List Nat, Z.Perm X → Srt kF Z → StA k (a + k) n L (P ++ Z ++ S) := by
  obtain ⟨P, R, rfl, hp, hf, hL, hR⟩ := h
  refine ⟨P, R.take k, R.drop k, by rw [List.append_assoc, List.take_append_drop], hp, by rw [List.length_take]; omega, fun x hx => hL.mem_iff.1 (List.mem_append.2 (.inr (List.mem_of_mem_take hx))), fun Z hz hs => ?_⟩
  have hzl : Z.length = k := by rw [hz.length_eq, List.length_take]; omega
  refine ⟨P ++ Z, R.drop k, rfl, by rw [List.length_append]; omega, .snoc hf hzl hs, ?_, by rw [List.length_drop]; omega⟩
  refine List.Perm.trans ?_ hL
  rw [List.append_assoc]
  refine List.Perm.append_left P ?_
  refine (hz.append_right _).trans ?_
  rw [List.take_append_drop]
theorem StA.end_ {k a n : Nat} {L l : List Nat} (h : StA k a n L l) (hb : n < a + k) : ∃ P R, l = P ++ R ++ [] ∧ P.length = a ∧ a + R.length = n ∧ (∀ x ∈ R, x ∈ L) ∧ ∀ Z : List Nat, Z.Perm R → Srt kF Z → Runs k (P ++ Z ++ []) ∧ (P ++ Z ++ []).Perm L := by
  obtain ⟨P, R, rfl, hp, hf, hL, hR⟩ := h
  refine ⟨P, R, by simp, hp, hR, fun x hx => hL.mem_iff.1 (List.mem_append.2 (.inr hx)), fun Z hz hs => ?_⟩
  rw [List.append_nil]
  exact ⟨hf.runs (.last (by rw [hz.length_eq]; omega) hs), (hz.append_left P).trans hL⟩
/-- Loop two, within: what is done is in runs of 2 k, the rest in runs of k. -/
def StB (k a n : Nat) (L l : List Nat) : Prop := ∃ P R, l = P ++ R ∧ P.length = a ∧ Full (2 * k) P ∧ Runs k R ∧ l.Perm L ∧ a + R.length = n
theorem StB.start {k n : Nat} {L l : List Nat} (hn : L.length = n) (h : Runs k l) (hp : l.Perm L) : StB k 0 n L l := ⟨[], l, rfl, rfl, .nil, h, hp, by rw [hp.length_eq]; omega⟩
theorem StB.parts {k a n : Nat} {L l : List Nat} (h : StB k a n L l) (h0 : 0 < k) (hb : a + 2 * k ≤ n) : ∃ P X Y S, l = P ++ X ++ Y ++ S ∧ P.length = a ∧ X.length = k ∧ Y.length = k ∧ Srt kF X ∧ Srt kF Y ∧ (∀ x ∈ P ++ X ++ Y ++ S, x ∈ L) ∧ ∀ Z : List Nat, Z.Perm (X ++ Y) → Srt kF Z → StB k (a + 2 * k) n L (P ++ Z ++ S) := by
  obtain ⟨P, R, rfl, hp, hf, hr, hL, hR⟩ := h
  obtain ⟨X, Y, S, rfl, hx, hy, sx, sy, hs⟩ := hr.two h0 (by omega)
  have e : P ++ (X ++ Y ++ S) = P ++ X ++ Y ++ S := by simp only [List.append_assoc]
  refine ⟨P, X, Y, S, e, hp, hx, hy, sx, sy, fun x h => hL.mem_iff.1 (by rw [e]; exact h), fun Z hz sz => ?_⟩
  have hzl : Z.length = 2 * k := by rw [hz.length_eq, List.length_append]; omega
  refine ⟨P ++ Z, S, rfl, by rw [List.length_append]; omega, .snoc hf hzl sz, hs, ?_, by simp only [List.length_append] at hR; omega⟩
  refine List.Perm.trans ?_ hL
  rw [List.append_assoc]
  exact List.Perm.append_left P (hz.append_right S)
theorem StB.more {k a n : Nat} {L l : List Nat} (h : StB k a n L l) (hb : n < a + 2 * k) (hm : a + k < n) : ∃ P X Y, l = P ++ X ++ Y ++ [] ∧ P.length = a ∧ X.length = k ∧ a + k + Y.length = n ∧ 0 < Y.length ∧ Srt kF X ∧ Srt kF Y ∧ (∀ x ∈ P ++ X ++ Y ++ [], x ∈ L) ∧ ∀ Z : List Nat, Z.Perm (X ++ Y) → Srt kF Z → Runs (2 * k) (P ++ Z ++ []) ∧ (P ++ Z ++ []).Perm L := by
  obtain ⟨P, R, rfl, hp, hf, hr, hL, hR⟩ := h
  obtain ⟨X, Y, rfl, hx, sx, sy, hy⟩ := hr.rest (by omega) (by omega)
  have e : P ++ (X ++ Y) = P ++ X ++ Y ++ [] := by simp only [List.append_assoc, List.append_nil]
  rw [List.length_append] at hR
  refine ⟨P, X, Y, e, hp, hx, by omega, hy, sx, sy, fun x h => hL.mem_iff.1 (by rw [e]; exact h), fun Z hz sz => ?_⟩
  rw [List.append_nil]
  refine ⟨hf.runs (.last (by rw [hz.length_eq, List.length_append]; omega) sz), (hz.append_left P).trans hL⟩
theorem StB.less {k a n : Nat} {L l : List Nat} (h : StB k a n L l) (hm : n ≤ a + k) : Runs (2 * k) l ∧ l.Perm L := by
  obtain ⟨P, R, rfl, hp, hf, hr, hL, hR⟩ := h
  exact ⟨hf.runs (.last (by omega) (hr.one (by omega))), hL⟩
end Go.Proofs.Ytccigmpbcjlogaa

/- Layer 3, the document's answer: the constants found anew. -/
import Derived.Test.YtlondennhhffdaaDoorRootD
namespace Go.Proofs.YtlondennhhffdaaDoor
open Go.RowKit Go.Shelf
set_option linter.unusedVariables false

abbrev V32 (x : Nat) : Value := .int .u32 (x : Int)
theorem primesB_succ (p : Nat) : primesB (p + 1) = if primeB p then primesB p ++ [p] else primesB p := rfl
theorem primesB_mono (p q : Nat) : (primesB p).length ≤ (primesB (p + q)).length := by
  induction q with
  | zero => exact Nat.le_refl _
  | succ q ih =>
    refine Nat.le_trans ih ?_
    show (primesB (p + q)).length ≤ (primesB (p + q + 1)).length
    rw [primesB_succ]
    split
    · rw [List.length_append]; omega
    · exact Nat.le_refl _

set_option maxRecDepth 100000 in
set_option maxHeartbeats 2000000 in
theorem const_any (n k P : Nat) (w : World) (hn : n ≤ 64) (hk2 : 2 ≤ k) (hk : k ≤ 3) (hP : P + 1 ≤ 400) (hP2 : 2 ≤ P) (hlen : (primesB (P + 1)).length = n) (hlt : (primesB P).length < n) :
    Calls Tryd.prog 24 #[.int .i64 n, .int .i64 k] w fun e w' => ∃ A c, e = .returned (.slice A n c) ∧ Sl w' w'.heap.size 1 A n ((constB k (P + 1)).map V32) ∧ Below w.heap.size w w' := by
  have HLEN := Lib.hid hlen
  have HLT := Lib.hid (show ∀ p, p ≤ P → (primesB p).length < n from fun p hp => by
    have := primesB_mono p (P - p)
    rw [show p + (P - p) = P by omega] at this
    omega)
  clear hlen hlt
  go_enter Tryd.func24, Tryd.ntmps24
  go_wp2_with fail
  go_loopw [5, 6] (fun v i wr => ∃ p m : Nat, ∃ A c, 2 ≤ p ∧ p ≤ P + 1 ∧ m ≤ n ∧ i = .int .i64 p ∧ v = .slice A m c ∧ Hid (m = (primesB p).length) ∧ Hid (wr.ownsRow w.heap.size 70 1 (.slice A m c) m ((constB k p).map V32)) ∧ Hid (Below w.heap.size w wr)) (fun _ i _ => 500 - (intOf i).toNat)
  case atStart => exact ⟨2, 0, none, 0, by omega, by omega, by omega, rfl, rfl, Lib.hid (by decide), Lib.hid (by
    have e : (constB k 2).map V32 = [] := by unfold constB; rw [show primesB 2 = [] by decide]; rfl
    rw [e]; exact World.ownsRow_nil _ _ _ _), Lib.hid (Below.refl _ _)⟩
  case round =>
    obtain ⟨p, m, A, c, hp2, hpP, hmn, rfl, rfl, hm, ho0, hb0⟩ := hrel
    by_cases hpl : p ≤ P
    · have hmlt : m < n := by rw [hm.out]; exact HLT.out p hpl
      obtain ⟨d, hd⟩ : ∃ d, primeB p = d := ⟨_, rfl⟩
      have HD := Lib.hid hd
      have HPR := Lib.hid (prime_any p wr (by omega))
      rw [hd] at HPR
      clear hd
      go_wp2_with fail
      refine HPR.out.mono ?_
      rintro e w7 ⟨rfl, hw7⟩
      rw [hw7]
      clear hw7
      clear w7
      cases d with
      | true =>
        obtain ⟨r, hr⟩ : ∃ r, rootOf k p = r := ⟨_, rfl⟩
        have HR := Lib.hid hr
        have HRA := Lib.hid (root_any3 p k hr wr (by omega) hk2 hk)
        clear hr
        go_wp2_with fail
        refine HRA.out.mono ?_
        rintro e w7 ⟨rfl, hb_⟩
        have HO7 := Lib.hid (own_below ho0.out hb_)
        have HB7 := Lib.hid (hb0.out.grow' hb_)
        clear hb_ HRA
        have hbz := HB7.out.size
        go_wp2_with (at_builtin; refine wpl_app1 rfl rfl el_u32 HO7.out rfl (m := 1) rfl rfl ?_ ?_ ?_ ?_ ?_)
        · rfl
        · omega
        · omega
        · exact hbz
        · intro A4 c4 w4 ho hg hA
          have HM := Lib.hid (show m + 1 = (primesB (p + 1)).length by rw [primesB_succ, HD.out, if_pos rfl, List.length_append, ← hm.out]; rfl)
          have HO := Lib.hid (show w4.ownsRow w.heap.size 70 1 (.slice A4 (m + 1) c4) (m + 1) ((constB k (p + 1)).map V32) by
            unfold constB at ho ⊢
            rw [primesB_succ, HD.out, if_pos rfl, List.map_append, List.map_append, List.map_cons, List.map_nil, List.map_cons, List.map_nil, HR.out]; exact ho)
          have HB4 := Lib.hid (show Below w.heap.size w w4 from HB7.out.grown hg HB7.out.size (fun g hg => own_from HO7.out g hg))
          clear ho hg hA
          go_wp2_with fail
          go_roundw
          case rel => exact ⟨p + 1, m + 1, A4, c4, by omega, by omega, by omega, by go_num, rfl, HM, HO, HB4⟩
          case measure => simp [intOf]; omega
      | false =>
        have HM := Lib.hid (show m = (primesB (p + 1)).length by rw [primesB_succ, HD.out, if_neg (by simp)]; exact hm.out)
        have HO := Lib.hid (show wr.ownsRow w.heap.size 70 1 (.slice A m c) m ((constB k (p + 1)).map V32) by
          have h := ho0.out
          unfold constB at h ⊢
          rw [primesB_succ, HD.out, if_neg (by simp)]; exact h)
        go_wp2_with fail
        go_roundw
        case rel => exact ⟨p + 1, m, A, c, by omega, by omega, by omega, by go_num, rfl, HM, HO, hb0⟩
        case measure => simp [intOf]; omega
    · obtain rfl : p = P + 1 := by omega
      obtain rfl : m = n := by rw [hm.out]; exact HLEN.out
      go_wp2_with fail
      go_ret
      exact ⟨A, c, rfl, Sl.of_own ho0.out, hb0.out⟩
theorem len20 : (primesB 20).length = 8 ∧ (primesB 19).length < 8 := by decide +kernel
theorem len312 : (primesB 312).length = 64 ∧ (primesB 311).length < 64 := by decide +kernel
theorem v32_w (l : List UInt32) : (l.map UInt32.toNat).map V32 = l.map W := by
  rw [List.map_map]; rfl
end Go.Proofs.YtlondennhhffdaaDoor

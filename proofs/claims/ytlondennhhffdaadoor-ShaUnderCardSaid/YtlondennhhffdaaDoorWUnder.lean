/- The walk of seisinlaw03.ShaUnder. -/
import Derived.Test.YtlondennhhffdaaDoorUnder
import Derived.Test.YtlondennhhffdaaDoorShaH
import Derived.Test.YtlondennhhffdaaDoorOpenE
namespace Go.Proofs.YtlondennhhffdaaDoor
open Go.RowKit Go.Shelf
set_option linter.unusedVariables false

def uLen (m : UInt8) (ps : List (Value × List UInt8)) (k : Nat) : Nat := (underB m ((ps.take k).map Prod.snd)).length
theorem under_next (m : UInt8) (ps : List (Value × List UInt8)) (k : Nat) (p : Value × List UInt8) (h : ps[k]? = some p) : underB m ((ps.take (k + 1)).map Prod.snd) = underB m ((ps.take k).map Prod.snd) ++ (beBytes p.2.length 4 ++ p.2) := by
  rw [List.take_add_one, h, Option.toList_some, List.map_append, List.map_cons, List.map_nil, underB_snoc]
theorem uLen_next (m : UInt8) (ps : List (Value × List UInt8)) (k : Nat) (p : Value × List UInt8) (h : ps[k]? = some p) : uLen m ps (k + 1) = uLen m ps k + (4 + p.2.length) := by
  unfold uLen; rw [under_next m ps k p h]; simp [beBytes_len]
def WInv (w wr : World) (A : Option Addr) (c k : Nat) (ps : List (Value × List UInt8)) (m : UInt8) : Prop :=
  wr.ownsRow w.heap.size 5 1 (.slice A (uLen m ps k) c) (uLen m ps k) ((underB m ((ps.take k).map Prod.snd)).map B) ∧ Below w.heap.size w wr ∧ (∀ p ∈ ps.take k, p.2.length ≤ 60) ∧ uLen m ps k ≤ 1 + k * 64
theorem w_step {w wr w2 w4 : World} {A A4 : Option Addr} {c c4 k : Nat} {ps : List (Value × List UInt8)} {m : UInt8} {p : Value × List UInt8} (h : WInv w wr A c k ps m) (hk : ps[k]? = some p) (hp : p.2.length ≤ 60) (hb2 : Below wr.heap.size wr w2)
    (ho : w4.ownsRow w.heap.size 5 1 (.slice A4 (uLen m ps k + (4 + p.2.length)) c4) (uLen m ps k + (4 + p.2.length)) ((underB m ((ps.take k).map Prod.snd)).map B ++ (beBytes p.2.length 4 ++ p.2).map B)) (hg : w2.grownBy w4 (A.map Addr.block)) : WInv w w4 A4 c4 (k + 1) ps m := by
  obtain ⟨h1, h2, h3, h4⟩ := h
  have e := uLen_next m ps k p hk
  refine ⟨?_, app_below (h2.grow' hb2) (own_below h1 hb2) hg, ?_, by omega⟩
  · rw [e, under_next m ps k p hk, List.map_append]; exact ho
  · intro q hq
    rw [List.take_add_one, hk, Option.toList_some, List.mem_append, List.mem_singleton] at hq
    rcases hq with hq | rfl
    · exact h3 q hq
    · exact hp
theorem w_start (w : World) (m : UInt8) (ps : List (Value × List UInt8)) : WInv w (w.alloc (.cells #[B m] 5)) (some ⟨w.heap.size, 0, none⟩) 1 0 ps m := by
  have e : uLen m ps 0 = 1 := by unfold uLen underB; simp
  refine ⟨?_, (alloc_new w _ _).2.1, by simp, by omega⟩
  rw [e]
  have := World.ownsRow_lit (base := w.heap.size) (e := 5) (size := 1) w #[B m] 1 (Nat.le_refl _) (by simp [maxLen]) rfl
  simpa [underB] using this
attribute [irreducible] uLen

set_option maxRecDepth 100000 in
set_option maxHeartbeats 2000000 in
theorem shaUnder_any (m : UInt8) (A : Option Addr) (n c : Nat) (ps : List (Value × List UInt8)) (w : World) (hp : Parts w w.heap.size A n ps) (ht : Tabs w) :
    Calls Tryd.prog 6 #[.int .u8 (b8 m), .slice A n c] w fun e w' => e = .returned (.bool true) ∧ Below w.heap.size w w' := by
  have HT := Lib.hid ht; have HP := Lib.hid hp
  have HN := Lib.hid hp.len
  have HB := Lib.hid (Below.refl w.heap.size w)
  clear ht hp
  by_cases h10 : n ≤ 10
  · have g1 : decide (10 < (n : Int)) = false := by simp; omega
    obtain ⟨xs, hxs⟩ : ∃ xs, xs = (sha (underB m (ps.map Prod.snd))).map B := ⟨_, rfl⟩
    have HD := Lib.hid (show Dig xs (sha (underB m (ps.map Prod.snd))) by rw [hxs]; exact Dig.sha _)
    have heq := fun w => HD.out.self w
    clear hxs
    have hst := w_start w m ps
    have e0 : uLen m ps 0 = 1 := by unfold uLen underB; simp
    have HST := Lib.hid hst; have HE0 := Lib.hid e0
    clear hst e0
    go_enter Tryd.func6, Tryd.ntmps6
    go_wp2_with fail
    go_loopw [5, 6] (fun v i wr => ∃ k : Nat, ∃ A' c', k ≤ n ∧ i = .int .i64 k ∧ v = .slice A' (uLen m ps k) c' ∧ Hid (WInv w wr A' c' k ps m)) (fun _ i _ => n - (intOf i).toNat)
    case atStart => exact ⟨0, _, _, by omega, rfl, by rw [HE0.out], HST⟩
    case round =>
      obtain ⟨k, A3, c3, hk, rfl, rfl, hinv⟩ := hrel
      clear HST HB
      have hle := hinv.out.2.2.2
      by_cases hlt : k < n
      · obtain ⟨b, off, A2, c2, bs, rfl, hps, hc, hcc, hs⟩ := (HP.out.below hinv.out.2.1).at_ hlt
        have HS := Lib.hid (hs.more hinv.out.2.1.size)
        have HPS := Lib.hid hps
        clear hps hs hcc
        by_cases h60 : bs.length ≤ 60
        · have g2 : decide (60 < (bs.length : Int)) = false := by simp; omega
          go_wp2_with fail
          refine (long_any _ _ _ bs _ HS.out (by omega)).mono ?_
          rintro e w2 ⟨A5, c5, rfl, ho5, hb5⟩
          have HB5 := Lib.hid hb5
          have HS5 := Lib.hid (Sl.of_own ho5)
          have HO5 := Lib.hid (own_below hinv.out.1 hb5)
          have HA5 := Lib.hid (all_bytes (beBytes bs.length 4 ++ bs))
          have HZ5 := Lib.hid (Nat.le_trans hinv.out.2.1.size hb5.size)
          clear ho5 hb5
          go_wp2_with (at_builtin; refine wpl_apps rfl rfl el_u8 HO5.out rfl HS5.out rfl HA5.out (by omega) (by omega) HZ5.out ?_)
          intro A4 c4 w4 ho hg hA
          have HI := Lib.hid (w_step hinv.out HPS.out h60 HB5.out (by rw [List.map_append, List.map_take]; exact ho) hg)
          have HEN := Lib.hid (uLen_next m ps k _ HPS.out)
          clear ho hg hA
          go_wp2_with fail
          go_roundw
          case rel => exact ⟨k + 1, A4, c4, by omega, by go_num, by rw [HEN.out], HI⟩
          case measure => simp [intOf]; omega
        · have g2 : decide (60 < (bs.length : Int)) = true := by simp; omega
          have HT2 := Lib.hid (HT.out.below hinv.out.2.1)
          have HB := Lib.hid hinv.out.2.1
          go_wp2_with fail
          refine (awake3_any _ HT2.out).mono ?_
          rintro e w2 ⟨rfl, hb_⟩
          have HB2 := Lib.hid (HB.out.grow' hb_)
          clear hb_
          go_wp2_with fail
          go_ret
          exact ⟨rfl, HB2.out⟩
      · obtain rfl : k = n := by omega
        have HTK := Lib.hid (show ps.take k = ps from List.take_of_length_le (by rw [HN.out]; exact Nat.le_refl _))
        have HLB := Lib.hid (fun p hp => Nat.le_trans (hinv.out.2.2.1 p (by rw [HTK.out]; exact hp)) (show 60 ≤ 1000000 by omega))
        have HT2 := Lib.hid (HT.out.below hinv.out.2.1)
        have HP2 := Lib.hid (HP.out.grow hinv.out.2.1)
        have HB := Lib.hid hinv.out.2.1
        have HO := Lib.hid hinv.out.1
        clear HT HP hinv
        go_wp2_with fail
        refine (under_any m _ _ _ ps HD.out _ HP2.out (by omega) HLB.out HT2.out).mono ?_
        rintro e w2 ⟨rfl, hb_⟩
        have HO2 := Lib.hid (own_below HO.out hb_)
        have HT3 := Lib.hid (HT2.out.grow hb_)
        have HB2 := Lib.hid (HB.out.grow' hb_)
        clear hb_ HO HT2 HB HP2
        have HS2 := Lib.hid (show Sl w2 w2.heap.size 1 A3 (uLen m ps k) ((underB m (ps.map Prod.snd)).map B) by have := Sl.of_own HO2.out; rw [HTK.out] at this; exact this)
        go_wp2_with fail
        refine (dof_any _ _ _ HD.out _ HS2.out (by omega)).mono ?_
        rintro e w3 ⟨rfl, hb_⟩
        have HT4 := Lib.hid (HT3.out.grow hb_)
        have HB3 := Lib.hid (HB2.out.grow' hb_)
        clear hb_ HT3 HB2
        go_wp2_with fail
        refine (awake3_any _ HT4.out).mono ?_
        rintro e w4 ⟨rfl, hb_⟩
        have HB4 := Lib.hid (HB3.out.grow' hb_)
        clear hb_
        go_wp2_with fail
        go_ret
        exact ⟨rfl, HB4.out⟩
  · have g1 : decide (10 < (n : Int)) = true := by simp; omega
    go_enter Tryd.func6, Tryd.ntmps6
    go_wp2_with fail
    refine (awake3_any _ HT.out).mono ?_
    rintro e w_ ⟨rfl, hb_⟩
    have HB_ := Lib.hid (HB.out.grow' hb_)
    clear HB
    have HB := HB_
    clear HB_
    clear hb_
    go_wp2_with fail
    go_ret
    exact ⟨rfl, HB.out⟩
theorem shaUnder_walk (z : Int) (A : Option Addr) (n c : Nat) (ps : List (Value × List UInt8)) (w : World) (hz : (Lit.int .u8 z).wf = true) (hp : Parts w w.heap.size A n ps) (hn : n ≤ c) (hc : c ≤ maxLen) (ht : Tabs w) :
    Calls Tryd.prog 6 #[.int .u8 z, .slice A n c] w fun e w' => e = .returned (.bool true) ∧ Below w.heap.size w w' := by
  have hb := bounds_u8 hz
  have e : z = b8 (UInt8.ofNat z.toNat) := by simp only [b8, UInt8.toNat_ofNat']; omega
  rw [e]
  exact shaUnder_any _ A n c ps w hp ht
end Go.Proofs.YtlondennhhffdaaDoor

/- Contract of slices.Chunk at []byte: the iterator that it hands back. -/
import Derived.Test.YtlondennhhffdaaDoorShaC
import Derived.RangeFuncNested
import Derived.RangeFuncBound
import Derived.RangeFuncCalls
import Derived.RangeFuncLeaves
import Derived.Shelf.Abstract
import Derived.Shelf.RegionOpen
import Derived.OwnWalkIn
import Derived.TacticsInMore
import Derived.LoopNIn
import Derived.LoopIn
namespace Go.Proofs.YtlondennhhffdaaDoor
open Go.RowKit Go.Shelf
set_option linter.unusedVariables false

theorem chunk_any (A : Option Addr) (n c : Nat) (w : World) :
    Calls Tryd.prog 49 #[.slice A n c, .int .i64 64] w fun e w' => e = .returned (.func (.func 68) #[] #[.pointer (some ⟨w.heap.size, 0, none⟩), .pointer (some ⟨w.heap.size + 1, 0, none⟩)]) ∧
      w'.cell? ⟨w.heap.size, 0, none⟩ = some (.slice A n c) ∧ w'.cell? ⟨w.heap.size + 1, 0, none⟩ = some (.int .i64 64) ∧ w'.heap.size = w.heap.size + 2 ∧ Below w.heap.size w w' := by
  go_enter Tryd.func49, Tryd.ntmps49
  go_wp2_with fail
  go_ret
  exact ⟨rfl, by simp, by simp, by simp, ((Below.refl _ _).alloc (Nat.le_refl _) _).alloc (by simp) _⟩

set_option maxRecDepth 100000 in
set_option maxHeartbeats 1000000 in
theorem chunk1_any (m : Nat) (hm : 1 ≤ m) (l Bs Bn b off nb c : Nat) (Kp : World → World → Prop) (hKd : ∀ W n, Kp W (World.drewN W n)) (hKt : ∀ A B C : World, Kp A B → Kp B C → Kp A C) (hKs : ∀ W W', Kp W W' → W'.cell? ⟨Bs, 0, none⟩ = W.cell? ⟨Bs, 0, none⟩) (hKn : ∀ W W', Kp W W' → W'.cell? ⟨Bn, 0, none⟩ = W.cell? ⟨Bn, 0, none⟩) (hc : 64 * nb ≤ c) (hnb : nb ≤ 1000000000000) (J Jx : List (Fin nb) → World → Prop) (hJd : ∀ pre W1 n, J pre W1 → J pre (W1.drewN n))
    (hY : ∀ pre x W, J pre W → pre.length < nb → YieldAt Fence.wide (m - 1) Tryd.prog l #[.slice (some ⟨b, off + 64 * x.val, none⟩) 64 64] W fun e W' =>
      (e = .returned (.bool true) ∧ J (pre ++ [x]) W' ∧ Kp W W') ∨ (e = .returned (.bool false) ∧ Jx (pre ++ [x]) W'))
    (W : World) (hBs : W.cell? ⟨Bs, 0, none⟩ = some (.slice (some ⟨b, off, none⟩) (64 * nb) c)) (hBn : W.cell? ⟨Bn, 0, none⟩ = some (.int .i64 64)) (h0 : J [] W) :
    Calls Tryd.prog 68 #[.func (.yield l) #[] #[], .pointer (some ⟨Bs, 0, none⟩), .pointer (some ⟨Bn, 0, none⟩)] W fun e W' => (∃ v, e = .returned v) ∧
      ((∃ ys, ys.map Fin.val = List.range nb ∧ J ys W') ∨ (∃ pre, True ∧ Jx pre W')) := by
  have HY := Lib.hid hY; clear hY
  have HKD := Lib.hid hKd; clear hKd
  have HKT := Lib.hid hKt; clear hKt
  have HKS := Lib.hid hKs; clear hKs
  have HKN := Lib.hid hKn; clear hKn
  have HJD := Lib.hid hJd; clear hJd
  have H0 := Lib.hid h0; clear h0
  have HBS := Lib.hid hBs; clear hBs
  have HBN := Lib.hid hBn; clear hBn
  go_enter Tryd.func68, Tryd.ntmps68
  go_wp2_with fail
  go_loopw [4] (fun i wr => ∃ k : Nat, k ≤ nb ∧ i = .int .i64 (64 * (k : Int)) ∧ Hid (∃ pre, pre.map Fin.val = List.range k ∧ J pre wr) ∧ Hid (Kp W wr)) (fun i _ => 64 * nb - (intOf i).toNat)
  case atStart => exact ⟨0, Nat.zero_le _, rfl, ⟨[], rfl, H0.out⟩, HKD.out W 0⟩
  case round =>
    obtain ⟨k, hk, rfl, hJ, hbw⟩ := hrel
    have cs := (HKS.out _ _ hbw.out).trans HBS.out
    have cn := (HKN.out _ _ hbw.out).trans HBN.out
    by_cases hlt : k < nb
    · have q1 : 64 * (k : Int) < ((64 * nb : Nat) : Int) := by omega
      have q2 : ¬ c = 64 * k := by omega
      have z1 : (64 * (k : Int)).toNat = 64 * k := by omega
      have p1 : 0 ≤ 64 * (k : Int) := by omega
      have p2 : 64 * (k : Int) ≤ ((64 * nb : Nat) : Int) := by omega
      have p3 : 64 * (k : Int) ≤ 64 * (nb : Int) := by omega
      have p4 : 64 * k ≤ 64 * nb := by omega
      repeat' (first | (with_reducible refine wp_region_quiet_lit (id := 3) (by kernel_rfl) (by kernel_rfl) ?_) | go_values | go_skip | go_guarded | go_step | go_upon | go_back)
      repeat (quiet_step (fail))
      refine wpQuiet_nil ?_
      intro _ hw'
      obtain ⟨nq, hw''⟩ := hw'
      subst hw''
      rw [show (if ((64 * nb - 64 * k : Nat) : Int) < 64 then ((64 * nb - 64 * k : Nat) : Int) else 64) = 64 from if_neg (by omega)]
      obtain ⟨pre, hpre, hJp⟩ := hJ.out
      have hJ2 := HJD.out _ _ nq hJp
      have HPRE := Lib.hid hpre
      have hlen : pre.length = k := by have := congrArg List.length hpre; simpa using this
      have hbw2 := Lib.hid (HKT.out _ _ _ hbw.out (HKD.out wr nq))
      have cs2 : (wr.drewN nq).cell? ⟨Bs, 0, none⟩ = some (.slice (some ⟨b, off, none⟩) (64 * nb) c) := cs
      obtain ⟨fn, tmps, assign, body, hy, hR⟩ := HY.out pre ⟨k, hlt⟩ (wr.drewN nq) hJ2 (by rw [hlen]; exact hlt)
      have HR := Lib.hid hR
      clear hR hJ2 cs cn hJp hpre hlen hJ
      generalize hw2 : wr.drewN nq = w2 at *
      clear hw2
      have z2 : (64 * (k : Int) + 64).toNat = 64 * k + 64 := by omega
      have q3 : 64 * (k : Int) + 64 ≤ c := by omega
      have q4 : ¬ c = 64 * k := by omega
      have q5 : 0 ≤ 64 * (k : Int) + 64 := by omega
      repeat' (first | (with_reducible refine (wpIn_wide (n := m) (c := Code.region 4 _ _)).1 ?_) | go_values | go_skip | go_guarded | go_step | go_upon | go_back)
      gi_wp2
      refine HR.out.mono ?_
      rintro e W3 (⟨rfl, hJ3, hk3⟩ | ⟨rfl, hJx3⟩)
      · have HJ3 := Lib.hid hJ3
        have HK3 := Lib.hid (HKT.out _ _ _ hbw2.out hk3)
        clear hJ3 hk3
        have cn3 := (HKN.out _ _ HK3.out).trans HBN.out
        gi_wp2
        repeat' (first | go_values | go_skip | go_guarded | go_step | go_upon | go_back)
        go_roundw
        case rel => exact ⟨k + 1, by omega, by go_num, ⟨pre ++ [⟨k, hlt⟩], by rw [List.map_append, HPRE.out, List.range_succ]; rfl, HJ3.out⟩, HK3⟩
        case measure => simp [intOf]; omega
      · have HJX := Lib.hid hJx3
        clear hJx3
        gi_wp2
        repeat' (first | go_values | go_skip | go_guarded | go_step | go_upon | go_back)
        refine bodyPost_ret (results_none rfl _ _ _) rfl ?_
        exact ⟨⟨_, rfl⟩, .inr ⟨_, trivial, HJX.out⟩⟩
    · go_wp2_with fail
      go_end0
      obtain rfl : k = nb := by omega
      exact ⟨⟨_, rfl⟩, .inl hJ.out⟩

/-- Below n₀ all blocks but gv are as they were. -/
def KeepX (gv n₀ : Nat) (W W' : World) : Prop := ∀ k, k < n₀ → k ≠ gv → W'.heap[k]? = W.heap[k]?

theorem chunk1_stops (m : Nat) (hm : 1 ≤ m) (Bs Bn n₀ gv b off nb c : Nat) (w : World) (hw : n₀ ≤ w.heap.size) (hbs : Bs < n₀) (hbn : Bn < n₀) (hbs2 : Bs ≠ gv) (hbn2 : Bn ≠ gv) (hc : 64 * nb ≤ c) (hnb : nb ≤ 1000000000000)
    (hBs : w.cell? ⟨Bs, 0, none⟩ = some (.slice (some ⟨b, off, none⟩) (64 * nb) c)) (hBn : w.cell? ⟨Bn, 0, none⟩ = some (.int .i64 64)) :
    SeqStopsK Fence.wide m Tryd.prog 68 #[.pointer (some ⟨Bs, 0, none⟩), .pointer (some ⟨Bn, 0, none⟩)] (fun x : Fin nb => #[.slice (some ⟨b, off + 64 * x.val, none⟩) 64 64]) (KeepX gv n₀) (fun xs => xs.map Fin.val = List.range nb) (fun _ => True) nb w := by
  intro l J Jx W hW hJ hJx hY h0
  refine callsIn_wide.2 (chunk1_any m hm l Bs Bn b off nb c (KeepX gv n₀) (fun W n k _ _ => rfl) (fun A B C h1 h2 k hk hg => (h2 k hk hg).trans (h1 k hk hg)) (fun W W' h => World.cell?_of_block (h Bs hbs hbs2)) (fun W W' h => World.cell?_of_block (h Bn hbn hbn2)) hc hnb J Jx ?_ hY W ?_ ?_ h0)
  · intro pre W1 n h
    exact hJ pre W1 _ none h ⟨rfl, rfl, rfl, Nat.le_refl _, fun _ _ _ => rfl⟩ (fun r e => by cases e)
  · exact (hW.cell (p := ⟨Bs, 0, none⟩) (by show Bs < _; omega)).trans hBs
  · exact (hW.cell (p := ⟨Bn, 0, none⟩) (by show Bn < _; omega)).trans hBn
end Go.Proofs.YtlondennhhffdaaDoor

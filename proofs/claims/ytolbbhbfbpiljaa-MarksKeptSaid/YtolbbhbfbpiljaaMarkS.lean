/- What the laws of the marks lay: right marks with an expiry, keys by two bytes; plain facts for MarksFull. -/
import Derived.Test.YtolbbhbfbpiljaaMarkR
namespace Go.Proofs.Ytolbbhbfbpiljaa
open Go.RowKit
set_option linter.unusedVariables false
theorem bt4x (x : Int) : Try.prog.built 39 [(0, .agg certV.toArray), (1, .int .i64 x)] = some (markV (someM x)).toArray := by
  have h0 : Try.prog.built 39 [(0, .agg certV.toArray), (1, .int .i64 x)] = Instr.fill (fun i => (#[(0, 137), (137, 1)] : Array (Nat × Nat))[i]?) (markV noMrk).toArray [(0, .agg certV.toArray), (1, .int .i64 x)] := by kernel_rfl
  have hl : certV.length = 137 := by decide +kernel
  have hm : (markV noMrk).length = 138 := markV_length noMrk_ok
  rw [h0, fill_cons (off := 0) (s := 137) (cs := certV) rfl rfl hl (by rw [hm]; omega), fill_cons (off := 137) (s := 1) (cs := [.int .i64 x]) rfl rfl rfl (by unfold splice; simp [hl, hm]), fill_nil]
  refine congrArg (fun l : List Value => some l.toArray) ?_
  have e1 : splice (markV noMrk) 0 certV = certV ++ (markV noMrk).drop 137 := by unfold splice; simp [hl]
  have e2 : (markV noMrk).drop 137 = [.int .i64 0] := by kernel_rfl
  rw [e1, e2]
  unfold splice
  rw [List.take_append_of_le_length (by omega), List.take_of_length_le (by omega), List.drop_of_length_le (by simp [hl])]
  unfold markV certV someM
  simp
set_option maxRecDepth 100000 in
set_option maxHeartbeats 1000000 in
theorem somex_any (x : Int) (w : World) (hx : I64 x) : Calls Try.prog 13 #[.int .i64 x] w fun e w' => e = .returned (markA (someM x)) ∧ Below w.heap.size w w' := by
  have HNL := Lib.hid (markV_length noMrk_ok)
  have HML := Lib.hid (markV_length (someM_ok hx))
  have HM1 := Lib.hid (markV_one (someM x))
  have T1 := Lib.hid bt1; have T2 := Lib.hid bt2; have T3 := Lib.hid bt3; have T4 := Lib.hid (bt4x x)
  clear hx
  unfold markA
  generalize markV (someM x) = ms at *
  generalize certV = cv at *
  generalize entV someE = ev at *
  generalize hdrV someH = hv at *
  go_enter Try.func13, Try.ntmps13
  go_wp2_with (first | (with_reducible refine wpl_alloc (o := ⟨some 2, _, _, _, _, _⟩) rfl rfl zero_mark ?_))
  intro w1 hb1 hbw1 hsz1
  have HB1 := Lib.hid hb1
  have HBW := Lib.hid hbw1
  have HSZ := Lib.hid hsz1
  clear hb1 hbw1 hsz1
  go_wp2_with (first | (refine wpl_build (o := ⟨some 3, _, _, _, _, _⟩) rfl rfl T1.out ?_) | (refine wpl_build (o := ⟨some 4, _, _, _, _, _⟩) rfl rfl T2.out ?_) | (refine wpl_build (o := ⟨some 5, _, _, _, _, _⟩) rfl rfl T3.out ?_) | (refine wpl_build (o := ⟨some 7, _, _, _, _, _⟩) rfl rfl T4.out ?_) | (with_reducible refine wpl_storeb (o := ⟨none, .store _ _ _, _, _, _, _⟩) rfl rfl row_mark HB1.out rfl rfl HNL.out HML.out HM1.out ?_))
  intro w2 hb2 hg2 hs2
  have HB2 := Lib.hid hb2
  have HL2 := Lib.hid (HBW.out.grown hg2 (by have := HSZ.out; omega) (fun k hk => by cases hk; omega))
  clear hb2 hg2 hs2
  go_wp2_with fail
  refine ret_cell rfl row_mark HB2.out rfl HML.out rfl ?_
  exact ⟨rfl, HL2.out⟩
/-- A key whose digest begins with two bytes. -/
def mi (x y : Nat) (part : Int) : MKey := (part, UInt8.ofNat x :: UInt8.ofNat y :: List.replicate 30 0)
def idV (x y : Int) : Value := .agg (.int .u8 x :: .int .u8 y :: List.replicate 30 (.int .u8 0)).toArray
theorem b8_ofNat' {x : Nat} (h : x < 256) : b8 (UInt8.ofNat x) = x := by unfold b8; rw [UInt8.toNat_ofNat']; omega
theorem idV_mi (x y : Nat) (part : Int) (hx : x < 256) (hy : y < 256) : Value.agg ((mi x y part).2.map B).toArray = idV x y := by
  unfold mi idV
  simp only [List.map_cons, List.map_replicate, B, b8_ofNat' hx, b8_ofNat' hy]
  rfl
theorem mi_ok (x y : Nat) (part : Int) (h0 : 0 ≤ part) (h1 : part ≤ 9223372036854775807) : MKOK (mi x y part) := ⟨by simp [mi, I64]; omega, by simp [mi]⟩
theorem mi_inj {x y x' y' : Nat} {i i' : Int} (hx : x < 256) (hy : y < 256) (hx' : x' < 256) (hy' : y' < 256) (h : mi x y i = mi x' y' i') : x = x' ∧ y = y' ∧ i = i' := by
  unfold mi at h
  simp only [Prod.mk.injEq, List.cons.injEq] at h
  have h1 := congrArg UInt8.toNat h.2.1
  have h2 := congrArg UInt8.toNat h.2.2.1
  rw [UInt8.toNat_ofNat', UInt8.toNat_ofNat'] at h1 h2
  omega
theorem mput2 (g b : Nat) (L : MarksL) (x y : Nat) (part e : Int) (w : World) (h : MarksAt w g b L) (hx : x < 256) (hy : y < 256) (h0 : 0 ≤ part) (h1 : part ≤ 1) (he : I64 e) (r : Int) (hr : putM L (mi x y part) (someM e) = r) :
    Calls Try.prog 12 #[.pointer (some ⟨g, 0, none⟩), .int .i64 part, idV x y, markA (someM e)] w fun e' w' => e' = .returned (.int .i64 r) ∧ Touched [b] w w' ∧
      (r = 0 → MarksAt w' g b (L ++ [(mi x y part, someM e)])) ∧ (r ≠ 0 → MarksAt w' g b L) := by
  have := mput_any g b L (mi x y part) (someM e) w h (mi_ok x y part h0 (by omega)) (someM_ok he)
  rw [idV_mi x y part hx hy, hr] at this
  exact this
def exK (k j : Nat) : Int := if j < k then 1 else 100
def firstM (k n : Nat) : MarksL := (List.range n).map fun j => (mi j 0 ((j : Int) % 2), someM (exK k j))
theorem firstM_succ (k n : Nat) : firstM k (n + 1) = firstM k n ++ [(mi n 0 ((n : Int) % 2), someM (exK k n))] := by unfold firstM; rw [List.range_succ]; simp
theorem firstM_length (k n : Nat) : (firstM k n).length = n := by simp [firstM]
theorem lookM_no {L : MarksL} {p : MKey} (h : ∀ e ∈ L, e.1 ≠ p) : lookM L p = none := by
  unfold lookM
  rw [List.find?_eq_none.2 (fun e he => by simpa using h e he)]; rfl
theorem firstM_none {k n x y : Nat} {i : Int} (hn : n ≤ 128) (hx : x < 256) (hy : y < 256) (h : n ≤ x ∨ y ≠ 0) : ∀ e ∈ firstM k n, e.1 ≠ mi x y i := by
  intro e he h2
  obtain ⟨j, hj, rfl⟩ := List.mem_map.1 he
  have hj : j < n := by simpa using hj
  obtain ⟨e1, e2, _⟩ := mi_inj (by omega) (by omega) hx hy h2
  omega
theorem right_some {x : Int} (h0 : 0 ≤ x) (h1 : x ≤ 1099511627776) : rightM (someM x) = true := by
  have : rightM (someM x) = (rightE someE && rightH someH && inB x 0 1099511627776) := rfl
  rw [this, show (rightE someE && rightH someH) = true from by decide +kernel]
  simp [inB]; omega
theorem exK_b (k j : Nat) : 0 ≤ exK k j ∧ exK k j ≤ 100 := by unfold exK; split <;> omega
theorem part_b (n : Nat) : ¬ ((n : Int) % 2 ≠ 0 ∧ (n : Int) % 2 ≠ 1) := by omega
theorem putM_step (k n : Nat) (hn : n < 128) : putM (firstM k n) (mi n 0 ((n : Int) % 2)) (someM (exK k n)) = 0 := by
  have := exK_b k n
  unfold putM
  rw [if_neg (show ¬ ((mi n 0 ((n : Int) % 2)).1 ≠ 0 ∧ (mi n 0 ((n : Int) % 2)).1 ≠ 1) from part_b n), if_neg (by rw [right_some (by omega) (by omega)]; simp), lookM_no (firstM_none (by omega) (by omega) (by omega) (.inl (Nat.le_refl n))), if_neg (by simp), firstM_length, if_neg (by omega)]
theorem putM_full (k : Nat) : putM (firstM k 128) (mi 0 1 1) (someM 5) = 18 := by
  unfold putM
  rw [if_neg (by simp [mi]), if_neg (by rw [right_some (by omega) (by omega)]; simp), lookM_no (firstM_none (by omega) (by omega) (by omega) (.inr (by omega))), if_neg (by simp), firstM_length, if_pos (by omega)]
theorem putM_there (k : Nat) : putM (firstM k 128) (mi 0 0 0) (someM 5) = 24 := by
  unfold putM
  have : (lookM (firstM k 128) (mi 0 0 0)).isSome = true := by
    unfold firstM lookM
    rw [show List.range 128 = 0 :: (List.range 127).map (· + 1) from by decide +kernel, List.map_cons, List.find?_cons_of_pos (by show (mi 0 0 (((0 : Nat) : Int) % 2) == mi 0 0 0) = true; decide)]
    rfl
  rw [if_neg (by simp [mi]), if_neg (by rw [right_some (by omega) (by omega)]; simp), if_pos this]
theorem kept_len (k : Nat) : ∀ n : Nat, (keptM 4 (firstM k n)).length = n - k
  | 0 => by simp [firstM, keptM]
  | n + 1 => by
    have h1 := kept_len k n
    unfold keptM at h1 ⊢
    rw [firstM_succ, List.filter_append, List.length_append, h1]
    have h2 : isOldM 4 (mi n 0 ((n : Int) % 2), someM (exK k n)) = decide (n < k) := by
      show oldB (exK k n) 4 = _
      unfold exK
      by_cases h : n < k
      · rw [if_pos h, decide_eq_true h]; decide
      · rw [if_neg h, decide_eq_false h]; decide
    by_cases h : n < k
    · rw [List.filter_cons_of_neg (by rw [h2]; simp [h])]
      simp; omega
    · rw [List.filter_cons_of_pos (by rw [h2]; simp [h])]
      simp; omega
theorem putM_after (k : Nat) : putM (keptM 4 (firstM k 128)) (mi 0 1 1) (someM 5) = if k = 0 then 18 else 0 := by
  unfold putM
  rw [if_neg (by simp [mi]), if_neg (by rw [right_some (by omega) (by omega)]; simp), show lookM (keptM 4 (firstM k 128)) (mi 0 1 1) = none from lookM_no (fun e he => firstM_none (k := k) (n := 128) (by omega) (by omega) (by omega) (.inr (by omega)) e (List.mem_filter.1 he).1), if_neg (by simp), kept_len]
  by_cases h : k = 0
  · rw [if_pos (by omega), if_pos h]
  · rw [if_neg (by omega), if_neg h]
end Go.Proofs.Ytolbbhbfbpiljaa

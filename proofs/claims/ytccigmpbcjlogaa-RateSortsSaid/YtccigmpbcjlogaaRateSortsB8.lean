/- The document's Sort of rates. -/
import Derived.Test.YtccigmpbcjlogaaRateSortsB7
import Derived.Deep.CutBlock
import Derived.Test.YtccigmpbcjlogaaRateSortsB4
import Derived.Test.YtccigmpbcjlogaaRateSortsB3
import Derived.OpenShut
import Derived.ChangeSame
import Derived.Deep.Slices
import Derived.Laws.Cover2
import Derived.Test.YtccigmpbcjlogaaRows
set_option linter.unusedSimpArgs false
/- The document's Sort of rates. -/
namespace Go.Proofs.Ytccigmpbcjlogaa
open Go.RowKit
set_option linter.unusedVariables false
theorem fz_refl (Z : Nat) (w : World) : Below Z w w := Below.refl _ _
theorem fz_trans (Z : Nat) (a b c : World) (h : Below Z a b) (k : Below Z b c) : Below Z a c := h.trans k
/-- Floats that lie below Z. -/
def FZ (Z : Nat) (w : World) (A : Option Addr) (n : Nat) (xs : List Nat) : Prop := Z ≤ w.heap.size ∧ FSz w Z A n xs
theorem FZ.far {Z : Nat} {w w' : World} {A : Option Addr} {n : Nat} {xs : List Nat} (h : FZ Z w A n xs) (k : Below Z w w') : FZ Z w' A n xs := ⟨Nat.le_trans h.1 k.size, h.2.below k⟩
theorem FZ.grow {Z : Nat} {w w' : World} {A : Option Addr} {n : Nat} {xs : List Nat} (h : FZ Z w A n xs) (k : Grow w w') : FZ Z w' A n xs := h.far (k.mono h.1)
theorem FZ.cell {Z : Nat} {w w' : World} {b off n : Nat} {xs : List Nat} (h : FZ Z w (some ⟨b, off, none⟩) n xs) (k : Below Z w w') {i : Nat} (hi : i < n) : w'.cell? ⟨b, off + i, none⟩ = some (Fv (xs.getD i 0)) := by
  obtain ⟨b', off', e, hb, hc⟩ := h.2.2 (by omega)
  cases e
  rw [k.cell hb]; exact hc i hi
/-- A row of floats of the call's own. -/
def OwnF (w : World) (Z : Nat) (A : Option Addr) (n c : Nat) (xs : List Nat) : Prop := Z ≤ w.heap.size ∧ w.ownsRow Z 26 1 (.slice A n c) n (xs.map Fv)
theorem OwnF.grow {w w' : World} {Z n c : Nat} {A : Option Addr} {xs : List Nat} (h : OwnF w Z A n c xs) (k : Grow w w') : OwnF w' Z A n c xs := ⟨Nat.le_trans h.1 k.size, own_below h.2 k⟩
theorem OwnF.far {w w3 : World} {Z n c : Nat} {A : Option Addr} {xs : List Nat} (h : OwnF w Z A n c xs) (hg : w.grownBy w3 (A.map Addr.block)) : Below Z w w3 := by
  refine ⟨hg.os, hg.tape, hg.output, hg.size, fun q hq => hg.block q (Nat.lt_of_lt_of_le hq h.1) (fun e => ?_)⟩
  obtain ⟨_, h2 | ⟨g, cap, cur, hv, hb, _⟩⟩ := h.2
  · cases h2.1; cases e
  · cases hv
    cases e
    have hq' : g < Z := hq
    omega
theorem OwnF.ge {w : World} {Z n c : Nat} {A : Option Addr} {xs : List Nat} (h : OwnF w Z A n c xs) {g : Nat} (hg : A.map Addr.block = some g) : Z ≤ g ∧ g < w.heap.size := by
  obtain ⟨_, h2 | ⟨g', cap, cur, hv, hb, hh, _⟩⟩ := h.2
  · cases h2.1; cases hg
  · cases hv
    cases hg
    exact ⟨hb, (Array.getElem?_eq_some_iff.1 hh).1⟩
/-- A row of one, of the call's own, which no append touches. -/
def OneF (w : World) (Z g x : Nat) (A : Option Addr) : Prop := Blk w g 26 [Fv x] ∧ Z ≤ g ∧ A.map Addr.block ≠ some g
theorem OneF.grow {w w' : World} {Z g x : Nat} {A : Option Addr} (h : OneF w Z g x A) (k : Grow w w') : OneF w' Z g x A := ⟨h.1.grow k, h.2⟩
theorem OneF.grown {w w' : World} {Z g x : Nat} {A : Option Addr} (h : OneF w Z g x A) (k : w.grownBy w' (A.map Addr.block)) : Blk w' g 26 [Fv x] := h.1.grown k (fun e => h.2.2 e.symm)
theorem OwnF.cap {w : World} {Z n c : Nat} {A : Option Addr} {xs : List Nat} (h : OwnF w Z A n c xs) : n ≤ c := by
  obtain ⟨_, h2 | ⟨g', cap, cur, hv, hb, hh, hc, _⟩⟩ := h.2
  · obtain ⟨e, rfl⟩ := h2; exact Nat.zero_le _
  · cases hv; exact hc
/-- Floats that are read, below Z. -/
def SZ (Z : Nat) (w : World) (A : Option Addr) (n : Nat) (xs : List Nat) : Prop := Z ≤ w.heap.size ∧ Sl w Z 1 A n (xs.map Fv)
theorem SZ.far {Z : Nat} {w w' : World} {A : Option Addr} {n : Nat} {xs : List Nat} (h : SZ Z w A n xs) (k : Below Z w w') : SZ Z w' A n xs := ⟨Nat.le_trans h.1 k.size, h.2.below k⟩
theorem one_f64 (x : Nat) : ∀ u ∈ [Fv x], u.oneCell' = true := by
  intro u hu; rw [List.mem_singleton] at hu; subst hu; rfl
theorem fs_take {w : World} {Z i k : Nat} {A : Option Addr} {L : List Nat} (h : FSz w Z A i L) (hk : k ≤ i) : Sl w Z 1 A k ((L.take k).map Fv) := by
  refine FSz.sl ⟨by rw [List.length_take, h.1]; omega, fun h0 => ?_⟩
  obtain ⟨b, off, e, hb, hc⟩ := h.2 (by omega)
  refine ⟨b, off, e, hb, fun j hj => ?_⟩
  rw [hc j (by omega), List.getD_eq_getElem?_getD, List.getD_eq_getElem?_getD, List.getElem?_take, if_pos hj]
theorem fs_drop {w : World} {Z i k c : Nat} {A : Option Addr} {L : List Nat} (h : FSz w Z A i L) (hk : k ≤ i) (hc : i ≤ c) : Sl w Z 1 (if c = k then A else A.map (·.add k)) (i - k) ((L.drop k).map Fv) := by
  have := (FSz.sl h).cut (k := k) (m := i - k) (cap := c) (by omega) hc
  rw [Nat.mul_one, Nat.mul_one, ← List.map_drop, List.take_of_length_le (by rw [List.length_map, List.length_drop, h.1]; exact Nat.le_refl _)] at this
  exact this
set_option maxRecDepth 100000 in
set_option maxHeartbeats 8000000 in
theorem rrsort_any (A : Option Addr) (n c : Nat) (xs : List Nat) (w : World) (hs : FSz w w.heap.size A n xs) (hn : n ≤ 1000000) (ho : ∀ x ∈ xs, x < 2^64) :
    Calls Try.prog 6 #[.slice A n c] w fun e w' => ∃ A' c', e = .returned (.slice A' n c') ∧ Grow w w' ∧ ∃ L, L.Perm xs ∧ Srt kF L ∧ FSz w' w'.heap.size A' n L := by
  have HS := Lib.hid hs; have HN := Lib.hid hn; have HO := Lib.hid ho
  have HLN := Lib.hid hs.1
  clear hs hn ho
  go_enter Try.func6, Try.ntmps6
  go_wp2_with fail
  go_loopw [3, 4] (fun s3 s4 wr => ∃ (i c3 : Nat) (A3 : Option Addr) (L : List Nat), s3 = .slice A3 i c3 ∧ s4 = .int .i64 i ∧ i ≤ n ∧ i ≤ c3 ∧ Hid (L.Perm (xs.take i) ∧ Srt kF L) ∧ Hid (FSz wr wr.heap.size A3 i L) ∧ Hid (Below w.heap.size w wr)) (fun _ s4 _ => n - (intOf s4).toNat)
  case atStart => exact ⟨0, 0, none, [], rfl, rfl, Nat.zero_le _, Nat.le_refl _, Lib.hid ⟨by simp, by simp [Srt]⟩, Lib.hid (FSz.zero _), Lib.hid (Below.refl _ _)⟩
  case round =>
    obtain ⟨i, c3, A3, L, rfl, rfl, hi, hic, hP, hF, hB⟩ := hrel
    have HP := hP; have HF := hF; have HB := hB
    clear hP hF hB
    rename World => w_
    by_cases hlt : i < n
    · have HFL := Lib.hid ((HS.out.below HB.out).more HB.out.size)
      obtain ⟨b, off, hA, hb, hc⟩ := HS.out.2 (Nat.lt_of_le_of_lt (Nat.zero_le _) hlt)
      subst hA
      have HCE := Lib.hid (show ∀ w', Below w.heap.size w w' → w'.cell? ⟨b, off + i, none⟩ = some (Fv (xs.getD i 0)) from fun w' hB => by rw [hB.cell hb]; exact hc i hlt)
      obtain ⟨x, hx⟩ : ∃ x, x = xs.getD i 0 := ⟨_, rfl⟩
      have ox : x < 2^64 := HO.out x (by rw [hx, List.getD_eq_getElem?_getD, List.getElem?_eq_getElem (by rw [HLN.out]; exact hlt)]; exact List.getElem_mem _)
      rw [← hx] at HCE
      have HXE := Lib.hid hx; have HOX := Lib.hid ox
      have HLL := Lib.hid (show L.length = i from HF.out.1)
      have HOL := Lib.hid (show ∀ y ∈ L, y < 2^64 from fun y hy => HO.out y (List.mem_of_mem_take (HP.out.1.mem_iff.1 hy)))
      have v1 : IntKind.i64.wrap ((i : Int) + 1) = (i : Int) + 1 := IntWalk.i64_in _ (by have := HN.out; omega)
      have HV1 := Lib.hid v1
      clear hx ox hb hc v1 HFL
      go_upto_block 2 with fail
      go_cut [5] from 12 to 44 (fun s5 wr => ∃ k : Nat, s5 = .int .i64 k ∧ k ≤ i ∧ Hid ((k = 0 ∨ ky kF L (k - 1) ≤ kF x) ∧ (k = L.length ∨ kF x < ky kF L k)) ∧ Hid (FSz wr wr.heap.size A3 i L) ∧ Hid (Below w.heap.size w wr))
      case first =>
        go_wp2_with fail
        go_loopw [5] (fun s5 wr => ∃ k : Nat, s5 = .int .i64 k ∧ k ≤ i ∧ Hid (k = 0 ∨ ky kF L (k - 1) ≤ kF x) ∧ Hid (FSz wr wr.heap.size A3 i L) ∧ Hid (Below w.heap.size w wr)) (fun s5 _ => i - (intOf s5).toNat)
        case atStart => exact ⟨0, rfl, Nat.zero_le _, Lib.hid (.inl rfl), HF, HB⟩
        case round =>
          obtain ⟨k, rfl, hk, hK1, hF, hB⟩ := hrel
          clear HF HB
          have HF := hF; have HB := hB; have HK := hK1
          clear hF hB hK1
          rename World => w_
          by_cases hki : k < i
          · obtain ⟨b3, o3, hA3, hb3, hc3⟩ := HF.out.2 (by omega)
            subst hA3
            obtain ⟨y, hy⟩ : ∃ y, y = L.getD k 0 := ⟨_, rfl⟩
            have oy : y < 2^64 := HOL.out y (by rw [hy, List.getD_eq_getElem?_getD, List.getElem?_eq_getElem (by rw [HLL.out]; exact hki)]; exact List.getElem_mem _)
            have HC := Lib.hid (fun w => refcmp_any y x w oy HOX.out)
            have HZ := Lib.hid (@kF_lt x y)
            have HYE := Lib.hid hy
            obtain ⟨z, hz⟩ : ∃ z, z = cmpK y x := ⟨_, rfl⟩
            rw [← hz] at HC HZ
            have HCK := Lib.hid (show ∀ w', Below w_.heap.size w_ w' → w'.cell? ⟨b3, o3 + k, none⟩ = some (Fv y) from fun w' h => by rw [h.cell hb3, hy]; exact hc3 k hki)
            have HG0 := Lib.hid (show FZ w_.heap.size w_ (some ⟨b3, o3, none⟩) i L from ⟨Nat.le_refl _, HF.out⟩)
            obtain ⟨Z, hZ⟩ : ∃ Z, Z = w_.heap.size := ⟨_, rfl⟩
            rw [← hZ] at HG0
            clear hy oy hz hb3 hc3 HCK hZ HF
            try go_wp2_with fail
            repeat' (first | (with_reducible refine wp_plan (id := 6) Grow [0,0,0,0,0,0,0,0,2,0,0,0,2,3,0,0] (.get 0 (.get 1 (.get 2 (.get 3 (.get 4 (.get 5 (.get 6 (.get 7 (.get 8 (.get 9 (.get 10 (.get 11 (.get 12 (.act 13 (.get 14 (.get 15 .done)))))))))))))))) (by kernel_rfl) (by kernel_rfl) Grow.refl Grow.trans ?_) | go_values | go_skip | go_guarded | go_step | go_upon | go_back)
            intro w_ hd_
            have hb_ := hd_.grow
            have HB_ := Lib.hid (HB.out.grow' hb_)
            clear HB
            have HB := HB_
            clear HB_
            have HG0_ := Lib.hid (HG0.out.grow hb_)
            clear HG0
            have HG0 := HG0_
            clear HG0_
            clear hb_ hd_
            have c1 := HCE.out w_ HB.out
            have c2 := HG0.out.cell (Below.refl _ _) hki
            rw [← HYE.out] at c2
            repeat (first | (refine pl_calm rfl rfl (by first | exact wanted_none rfl | (go_simp; done) | rfl) (fun w_ => by first | (go_simp; rfl) | (go_simp; done) | rfl) (fun K hK => ?_); go_simp; refine hK _ _ ?_; clear hK K) | (refine pl_skip rfl (by first | (go_simp; done) | rfl) (fun K hK => ?_); go_simp; refine hK _ _ ?_; clear hK K) | (refine pl_skipa rfl (by first | (go_simp; done) | rfl) (fun K hK => ?_); go_simp; refine hK _ _ ?_; clear hK K) | (refine pl_load rfl rfl (by first | exact wanted_none rfl | (go_simp; done) | rfl) rfl (by first | rfl | (go_simp; rfl)) (by kernel_rfl) (by first | exact c1 | exact c2) (fun K hK => ?_); go_simp; refine hK _ _ ?_; clear hK K) | (refine pl_loadnow rfl rfl (by first | exact wanted_none rfl | (go_simp; done) | rfl) rfl (by first | rfl | (go_simp; rfl)) (by kernel_rfl) (by first | exact c1 | exact c2) (fun K hK => ?_); go_simp; refine hK _ _ ?_; clear hK K))
            refine pl_act rfl (by first | exact wanted_none rfl | (go_simp; done) | fail) (fun K hK => ?_)
            go_wp2_with fail
            refine (HC.out _).mono ?_
            rintro e w2_ ⟨rfl, rfl⟩
            go_wp2_with fail
            refine hK _ _ (fun _ => Grow.refl _) ?_
            clear hK K c1 c2
            obtain ⟨ge, hge⟩ : ∃ q, q = decide (0 ≤ z) := ⟨_, rfl⟩
            have zge : ((0 : Int) ≤ z) = (ge = true) := by rw [hge]; simp
            have HGE := Lib.hid hge
            clear hge
            repeat (first | (refine pl_calm rfl rfl (by first | exact wanted_none rfl | (go_simp; done) | rfl) (fun w_ => by first | (go_simp; rfl) | (go_simp; done) | rfl) (fun K hK => ?_); go_simp; refine hK _ _ ?_; clear hK K) | (refine pl_skip rfl (by first | (go_simp; done) | rfl) (fun K hK => ?_); go_simp; refine hK _ _ ?_; clear hK K) | (refine pl_skipa rfl (by first | (go_simp; done) | rfl) (fun K hK => ?_); go_simp; refine hK _ _ ?_; clear hK K))
            refine pl_done ?_
            clear HC zge
            have HF := Lib.hid (show FSz w_ w_.heap.size (some ⟨b3, o3, none⟩) i L from HG0.out.2.more HG0.out.1)
            clear HG0
            cases ge
            · have hz0 : z < 0 := Int.not_le.1 (of_decide_eq_false HGE.out.symm)
              have HZ2 := Lib.hid (HZ.out.2 hz0)
              clear HZ hz0 HGE
              go_wp2_with fail
              go_meet
              case rel => exact ⟨k, rfl, by omega, Lib.hid ⟨HK.out, .inr (by unfold ky; rw [← HYE.out]; exact HZ2.out)⟩, HF, HB⟩
            · have hz0 : 0 ≤ z := of_decide_eq_true HGE.out.symm
              have HZ2 := Lib.hid (show kF y ≤ kF x from Int.not_lt.1 (fun h => by have := HZ.out.1 h; omega))
              have q1 : IntKind.i64.wrap ((k : Int) + 1) = (k : Int) + 1 := IntWalk.i64_in _ (by have := HN.out; omega)
              clear HZ hz0 HGE
              go_wp2_with fail
              go_roundw
              all_goals clear q1
              case rel => exact ⟨k + 1, by go_num, hki, Lib.hid (.inr (by unfold ky; rw [show k + 1 - 1 = k by omega, ← HYE.out]; exact HZ2.out)), HF, HB⟩
              case measure => simp [intOf]; omega
          · obtain rfl : k = i := by omega
            have HG0 := Lib.hid (show FZ w_.heap.size w_ A3 k L from ⟨Nat.le_refl _, HF.out⟩)
            obtain ⟨Z, hZ⟩ : ∃ Z, Z = w_.heap.size := ⟨_, rfl⟩
            rw [← hZ] at HG0
            clear hZ HF
            try go_wp2_with fail
            repeat' (first | (with_reducible refine wp_plan (id := 6) Grow [0,0,0,0,0,0,0,0,2,0,0,0,2,3,0,0] (.get 0 (.get 1 (.get 2 (.get 3 (.get 4 (.get 5 (.get 6 (.get 7 (.get 8 (.get 9 (.get 10 (.get 11 (.get 12 (.act 13 (.get 14 (.get 15 .done)))))))))))))))) (by kernel_rfl) (by kernel_rfl) Grow.refl Grow.trans ?_) | go_values | go_skip | go_guarded | go_step | go_upon | go_back)
            intro w_ hd_
            have hb_ := hd_.grow
            have HB_ := Lib.hid (HB.out.grow' hb_)
            clear HB
            have HB := HB_
            clear HB_
            have HG0_ := Lib.hid (HG0.out.grow hb_)
            clear HG0
            have HG0 := HG0_
            clear HG0_
            clear hb_ hd_
            repeat (first | (refine pl_calm rfl rfl (by first | exact wanted_none rfl | (go_simp; done) | rfl) (fun w_ => by first | (go_simp; rfl) | (go_simp; done) | rfl) (fun K hK => ?_); go_simp; refine hK _ _ ?_; clear hK K) | (refine pl_skip rfl (by first | (go_simp; done) | rfl) (fun K hK => ?_); go_simp; refine hK _ _ ?_; clear hK K) | (refine pl_skipa rfl (by first | (go_simp; done) | rfl) (fun K hK => ?_); go_simp; refine hK _ _ ?_; clear hK K))
            refine pl_done ?_
            have HF := Lib.hid (show FSz w_ w_.heap.size A3 k L from HG0.out.2.more HG0.out.1)
            clear HG0
            go_wp2_with fail
            go_meet
            case rel => exact ⟨k, rfl, Nat.le_refl _, Lib.hid ⟨HK.out, .inl HLL.out.symm⟩, HF, HB⟩
      case rest =>
        obtain ⟨k, rfl, hk, hK1, hF, hB⟩ := hcut
        clear HF HB
        have HF := hF; have HB := hB; have HK := hK1
        clear hF hB hK1
        rename World => w_
        have HIR := Lib.hid (ins_right HP.out.2 (by rw [HLL.out]; exact hk) HK.out.1 HK.out.2)
        have HPX := Lib.hid (show (L ++ [x]).Perm (xs.take (i + 1)) by
          rw [List.take_add_one, List.getElem?_eq_getElem (by rw [HLN.out]; exact hlt)]
          refine HP.out.1.append ?_
          rw [HXE.out, List.getD_eq_getElem?_getD, List.getElem?_eq_getElem (by rw [HLN.out]; exact hlt)]; exact .refl _)
        obtain ⟨Z, hZ⟩ : ∃ Z, Z = w_.heap.size := ⟨_, rfl⟩
        have HFO := Lib.hid (show FZ Z w_ A3 i L from ⟨by rw [hZ]; exact Nat.le_refl _, by rw [hZ]; exact HF.out⟩)
        have HZW := Lib.hid (show w.heap.size ≤ Z by rw [hZ]; exact HB.out.size)
        have hkc : k ≤ c3 := Nat.le_trans hk hic
        have hki : (k : Int) ≤ (i : Int) := by omega
        have HKL := Lib.hid (show k + 1 + (i - k) = i + 1 by omega)
        have HKI := Lib.hid (show k + 1 + (i - k) ≤ 1000001 by have := HN.out; omega)
        have HIC := Lib.hid hic
        have HKK := Lib.hid hk
        clear hZ HF HK HP
        try go_wp2_with fail
        repeat' (first | (with_reducible refine wp_plan (id := 8) (fun a b => (Below Z a b)) [4,0,0,0,4,0,0,0,1,3,3,0,0,0,3,0] (.get 1 (.get 2 (.get 3 (.get 5 (.get 6 (.get 7 (.get 8 (.get 11 (.get 12 (.get 13 (.fork 0 (.fork 4 (.act 9 (.act 10 (.act 14 (.get 15 .done)))) (.act 9 (.act 4 (.act 10 (.act 14 (.get 15 .done)))))) (.act 9 (.act 0 (.act 4 (.act 10 (.act 14 (.get 15 .done))))))))))))))))) (by kernel_rfl) (by kernel_rfl) (fz_refl Z) (fz_trans Z) ?_) | go_values | go_skip | go_guarded | go_step | go_upon | go_back)
        intro w_ hd_
        have hb_ := hd_.grow
        have HB_ := Lib.hid (HB.out.grow' hb_)
        clear HB
        have HB := HB_
        clear HB_
        have HFO_ := Lib.hid (HFO.out.grow hb_)
        clear HFO
        have HFO := HFO_
        clear HFO_
        clear hb_ hd_
        repeat (first | (refine pl_calm rfl rfl (by first | exact wanted_none rfl | (go_simp; done) | rfl) (fun w_ => by first | (go_simp; rfl) | (go_simp; done) | rfl) (fun K hK => ?_); go_simp; refine hK _ _ ?_; clear hK K) | (refine pl_skip rfl (by first | (go_simp; done) | rfl) (fun K hK => ?_); go_simp; refine hK _ _ ?_; clear hK K) | (refine pl_skipa rfl (by first | (go_simp; done) | rfl) (fun K hK => ?_); go_simp; refine hK _ _ ?_; clear hK K))
        refine pl_read rfl rfl (by exact wanted_none rfl) (v := .float .f64 x) (fun w3_ hf_ => by have c9 : w3_.cell? ⟨b, off + i, none⟩ = some (.float .f64 x) := HCE.out _ (HB.out.trans (hf_.mono HZW.out)); first | (go_simp; rfl) | (go_simp; done)) (fun K hK => ?_)
        go_simp
        refine hK _ _ ?_
        clear hK K
        repeat (first | (refine pl_calm rfl rfl (by first | exact wanted_none rfl | (go_simp; done) | rfl) (fun w_ => by first | (go_simp; rfl) | (go_simp; done) | rfl) (fun K hK => ?_); go_simp; refine hK _ _ ?_; clear hK K) | (refine pl_skip rfl (by first | (go_simp; done) | rfl) (fun K hK => ?_); go_simp; refine hK _ _ ?_; clear hK K) | (refine pl_skipa rfl (by first | (go_simp; done) | rfl) (fun K hK => ?_); go_simp; refine hK _ _ ?_; clear hK K))
        have HD := Lib.hid (show SZ Z w_ (if c3 = k then A3 else Option.map (fun x => x.add k) A3) (i - k) (L.drop k) from ⟨HFO.out.1, fs_drop HFO.out.2 HKK.out HIC.out⟩)
        have HT := Lib.hid (show SZ Z w_ A3 k (L.take k) from ⟨HFO.out.1, fs_take HFO.out.2 HKK.out⟩)
        generalize (if c3 = k then A3 else Option.map (fun x => x.add k) A3) = Ad at HD ⊢
        have HKI2 := Lib.hid (show k ≤ 1000000 by have := HN.out; have := HKK.out; omega)
        clear HFO hkc hki
        refine pl_fork rfl (by exact wanted_none rfl) (fun K hK => ?_) ?_
        · skip
          show wpList _ _ _ [⟨some _, .buildSlice _ _ _, _, _, _, _⟩] _ _
          have HN_ := Lib.hid (World.ownsRow_lit (base := Z) (e := 26) (size := 1) w_ #[] 0 HT.out.1 (by simp [maxLen]) rfl)
          go_wp2_with fail
          generalize hw_ : World.alloc w_ _ = w4_ at HN_ ⊢
          obtain ⟨hX_, hb_, hs_⟩ := alloc_eq hw_
          have HF_ := Lib.hid (show Below Z w_ w4_ from hb_.mono HT.out.1)
          refine hK _ _ (fun _ => HF_.out) ?_
          clear hK K
          have H0 := Lib.hid (show OwnF w4_ Z (some ⟨w_.heap.size, 0, none⟩) 0 0 [] from ⟨Nat.le_trans HT.out.1 hb_.size, HN_.out⟩)
          replace HT := Lib.hid (HT.out.far HF_.out)
          replace HD := Lib.hid (HD.out.far HF_.out)
          replace HB := Lib.hid (HB.out.trans (HF_.out.mono HZW.out))
          generalize w_.heap.size = g0 at *
          clear hw_ hX_ hb_ hs_ HN_ HF_
          try clear w_
          rename World => w_
          refine pl_fork rfl (by exact wanted_none rfl) (fun K hK => ?_) ?_
          · skip
            show wpList _ _ _ [⟨some _, .call _, _, _, _, _⟩] _ _
            go_wp2_with (at_builtin; refine wpl_apps rfl rfl el_f64 H0.out.2 rfl (HT.out.2) rfl (all_f64 _) (by have := HKI2.out; have := HKI.out; omega) (by have := HKI2.out; have := HKI.out; omega) H0.out.1 ?_)
            intro A5 c5 w4_ ho_ hg_ hA_
            have HF_ := Lib.hid (H0.out.far hg_)
            have H0_ := Lib.hid (show OwnF w4_ Z A5 (k) c5 (L.take k) from ⟨Nat.le_trans H0.out.1 hg_.size, by simpa [List.map_append, List.map_take, List.map_drop] using ho_⟩)
            replace HT := Lib.hid (HT.out.far HF_.out)
            replace HD := Lib.hid (HD.out.far HF_.out)
            replace HB := Lib.hid (HB.out.trans (HF_.out.mono HZW.out))
            clear H0 ho_ hg_ hA_
            have H0 := H0_
            clear H0_
            go_wp2_with fail
            refine hK _ _ (fun _ => HF_.out) ?_
            clear hK K HF_
            try clear w_
            rename World => w_
            obtain ⟨A0, c0, HA0⟩ : ∃ A0 c0, A0 = A5 ∧ c0 = c5 := ⟨_, _, rfl, rfl⟩
            obtain ⟨rfl, rfl⟩ := HA0
            refine pl_act rfl (by exact wanted_none rfl) (fun K hK => ?_)
            show wpList _ _ _ [⟨some _, .buildSlice _ _ _, _, _, _, _⟩] _ _
            go_wp2_with fail
            generalize hw_ : World.alloc w_ _ = w4_
            obtain ⟨hX_, hb_, hs_⟩ := alloc_eq hw_
            have HF_ := Lib.hid (show Below Z w_ w4_ from hb_.mono HT.out.1)
            refine hK _ _ (fun _ => HF_.out) ?_
            clear hK K
            have H9 := Lib.hid (show Blk w4_ w_.heap.size 26 [Fv x] ∧ Z ≤ w_.heap.size from ⟨hX_, HT.out.1⟩)
            replace H0 := Lib.hid (H0.out.grow hb_)
            replace HT := Lib.hid (HT.out.far HF_.out)
            replace HD := Lib.hid (HD.out.far HF_.out)
            replace HB := Lib.hid (HB.out.trans (HF_.out.mono HZW.out))
            generalize w_.heap.size = g9 at H9 ⊢
            clear hw_ hX_ hb_ hs_ HF_
            try clear w_
            rename World => w_
            refine pl_act rfl (by exact wanted_none rfl) (fun K hK => ?_)
            show wpList _ _ _ [⟨some _, .call _, _, _, _, _⟩] _ _
            go_wp2_with (at_builtin; refine wpl_apps rfl rfl el_f64 H0.out.2 rfl (Blk.sl H9.out.1 (by simp)) rfl (one_f64 x) (by have := HKI2.out; have := HKI.out; omega) (by have := HKI2.out; have := HKI.out; omega) H0.out.1 ?_)
            intro A5 c5 w4_ ho_ hg_ hA_
            have HF_ := Lib.hid (H0.out.far hg_)
            have H0_ := Lib.hid (show OwnF w4_ Z A5 (k + 1) c5 (L.take k ++ [x]) from ⟨Nat.le_trans H0.out.1 hg_.size, by simpa [List.map_append, List.map_take, List.map_drop] using ho_⟩)
            replace HT := Lib.hid (HT.out.far HF_.out)
            replace HD := Lib.hid (HD.out.far HF_.out)
            replace HB := Lib.hid (HB.out.trans (HF_.out.mono HZW.out))
            clear H0 ho_ hg_ hA_
            have H0 := H0_
            clear H0_
            go_wp2_with fail
            refine hK _ _ (fun _ => HF_.out) ?_
            clear hK K HF_
            try clear w_
            rename World => w_
            refine pl_act rfl (by exact wanted_none rfl) (fun K hK => ?_)
            show wpList _ _ _ [⟨some _, .call _, _, _, _, _⟩] _ _
            go_wp2_with (at_builtin; refine wpl_apps rfl rfl el_f64 H0.out.2 rfl (HD.out.2) rfl (all_f64 _) (by have := HKI2.out; have := HKI.out; omega) (by have := HKI2.out; have := HKI.out; omega) H0.out.1 ?_)
            intro A5 c5 w4_ ho_ hg_ hA_
            have HF_ := Lib.hid (H0.out.far hg_)
            have H0_ := Lib.hid (show OwnF w4_ Z A5 ((k + 1) + (i - k)) c5 ((L.take k ++ [x]) ++ L.drop k) from ⟨Nat.le_trans H0.out.1 hg_.size, by simpa [List.map_append, List.map_take, List.map_drop] using ho_⟩)
            replace HT := Lib.hid (HT.out.far HF_.out)
            replace HD := Lib.hid (HD.out.far HF_.out)
            replace HB := Lib.hid (HB.out.trans (HF_.out.mono HZW.out))
            clear H0 ho_ hg_ hA_
            have H0 := H0_
            clear H0_
            go_wp2_with fail
            refine hK _ _ (fun _ => HF_.out) ?_
            clear hK K HF_
            try clear w_
            rename World => w_
            rw [HKL.out] at H0 ⊢
            repeat (first | (refine pl_calm rfl rfl (by first | exact wanted_none rfl | (go_simp; done) | rfl) (fun w_ => by first | (go_simp; rfl) | (go_simp; done) | rfl) (fun K hK => ?_); go_simp; refine hK _ _ ?_; clear hK K) | (refine pl_skip rfl (by first | (go_simp; done) | rfl) (fun K hK => ?_); go_simp; refine hK _ _ ?_; clear hK K) | (refine pl_skipa rfl (by first | (go_simp; done) | rfl) (fun K hK => ?_); go_simp; refine hK _ _ ?_; clear hK K))
            refine pl_done ?_
            have HR := Lib.hid (show FSz w_ w_.heap.size A5 (i + 1) (L.take k ++ x :: L.drop k) from by have h := FSz.of_sl (Sl.of_own H0.out.2); rw [List.append_assoc] at h; exact h)
            have HCP := Lib.hid (H0.out.cap)
            have v1 := HV1.out
            clear H9 H0 HT HD
            go_wp2_with fail
            go_roundw
            all_goals clear v1
            case rel => exact ⟨i + 1, c5, A5, _, rfl, by go_num, hlt, HCP.out, Lib.hid ⟨HIR.out.1.trans HPX.out, HIR.out.2⟩, HR, HB⟩
            case measure => simp [intOf]; omega
          · skip
            refine pl_act rfl (by exact wanted_none rfl) (fun K hK => ?_)
            show wpList _ _ _ [⟨some _, .buildSlice _ _ _, _, _, _, _⟩] _ _
            go_wp2_with fail
            generalize hw_ : World.alloc w_ _ = w4_
            obtain ⟨hX_, hb_, hs_⟩ := alloc_eq hw_
            have HF_ := Lib.hid (show Below Z w_ w4_ from hb_.mono HT.out.1)
            refine hK _ _ (fun _ => HF_.out) ?_
            clear hK K
            have H9 := Lib.hid (show OneF w4_ Z w_.heap.size x (some ⟨g0, 0, none⟩) from ⟨hX_, HT.out.1, fun e => by have h1 := (H0.out.ge e).2; omega⟩)
            replace H0 := Lib.hid (H0.out.grow hb_)
            replace HT := Lib.hid (HT.out.far HF_.out)
            replace HD := Lib.hid (HD.out.far HF_.out)
            replace HB := Lib.hid (HB.out.trans (HF_.out.mono HZW.out))
            generalize w_.heap.size = g9 at H9 ⊢
            clear hw_ hX_ hb_ hs_ HF_
            try clear w_
            rename World => w_
            refine pl_act rfl (by exact wanted_none rfl) (fun K hK => ?_)
            show wpList _ _ _ [⟨some _, .call _, _, _, _, _⟩] _ _
            go_wp2_with (at_builtin; refine wpl_apps rfl rfl el_f64 H0.out.2 rfl (HT.out.2) rfl (all_f64 _) (by have := HKI2.out; have := HKI.out; omega) (by have := HKI2.out; have := HKI.out; omega) H0.out.1 ?_)
            intro A5 c5 w4_ ho_ hg_ hA_
            have HF_ := Lib.hid (H0.out.far hg_)
            have H0_ := Lib.hid (show OwnF w4_ Z A5 (k) c5 (L.take k) from ⟨Nat.le_trans H0.out.1 hg_.size, by simpa [List.map_append, List.map_take, List.map_drop] using ho_⟩)
            have H9_ := Lib.hid (show Blk w4_ g9 26 [Fv x] ∧ Z ≤ g9 from ⟨H9.out.grown hg_, H9.out.2.1⟩)
            clear H9
            have H9 := H9_
            clear H9_
            replace HT := Lib.hid (HT.out.far HF_.out)
            replace HD := Lib.hid (HD.out.far HF_.out)
            replace HB := Lib.hid (HB.out.trans (HF_.out.mono HZW.out))
            clear H0 ho_ hg_ hA_
            have H0 := H0_
            clear H0_
            go_wp2_with fail
            refine hK _ _ (fun _ => HF_.out) ?_
            clear hK K HF_
            try clear w_
            rename World => w_
            obtain ⟨A0, c0, HA0⟩ : ∃ A0 c0, A0 = A5 ∧ c0 = c5 := ⟨_, _, rfl, rfl⟩
            obtain ⟨rfl, rfl⟩ := HA0
            refine pl_act rfl (by exact wanted_none rfl) (fun K hK => ?_)
            show wpList _ _ _ [⟨some _, .call _, _, _, _, _⟩] _ _
            go_wp2_with (at_builtin; refine wpl_apps rfl rfl el_f64 H0.out.2 rfl (Blk.sl H9.out.1 (by simp)) rfl (one_f64 x) (by have := HKI2.out; have := HKI.out; omega) (by have := HKI2.out; have := HKI.out; omega) H0.out.1 ?_)
            intro A5 c5 w4_ ho_ hg_ hA_
            have HF_ := Lib.hid (H0.out.far hg_)
            have H0_ := Lib.hid (show OwnF w4_ Z A5 (k + 1) c5 (L.take k ++ [x]) from ⟨Nat.le_trans H0.out.1 hg_.size, by simpa [List.map_append, List.map_take, List.map_drop] using ho_⟩)
            replace HT := Lib.hid (HT.out.far HF_.out)
            replace HD := Lib.hid (HD.out.far HF_.out)
            replace HB := Lib.hid (HB.out.trans (HF_.out.mono HZW.out))
            clear H0 ho_ hg_ hA_
            have H0 := H0_
            clear H0_
            go_wp2_with fail
            refine hK _ _ (fun _ => HF_.out) ?_
            clear hK K HF_
            try clear w_
            rename World => w_
            refine pl_act rfl (by exact wanted_none rfl) (fun K hK => ?_)
            show wpList _ _ _ [⟨some _, .call _, _, _, _, _⟩] _ _
            go_wp2_with (at_builtin; refine wpl_apps rfl rfl el_f64 H0.out.2 rfl (HD.out.2) rfl (all_f64 _) (by have := HKI2.out; have := HKI.out; omega) (by have := HKI2.out; have := HKI.out; omega) H0.out.1 ?_)
            intro A5 c5 w4_ ho_ hg_ hA_
            have HF_ := Lib.hid (H0.out.far hg_)
            have H0_ := Lib.hid (show OwnF w4_ Z A5 ((k + 1) + (i - k)) c5 ((L.take k ++ [x]) ++ L.drop k) from ⟨Nat.le_trans H0.out.1 hg_.size, by simpa [List.map_append, List.map_take, List.map_drop] using ho_⟩)
            replace HT := Lib.hid (HT.out.far HF_.out)
            replace HD := Lib.hid (HD.out.far HF_.out)
            replace HB := Lib.hid (HB.out.trans (HF_.out.mono HZW.out))
            clear H0 ho_ hg_ hA_
            have H0 := H0_
            clear H0_
            go_wp2_with fail
            refine hK _ _ (fun _ => HF_.out) ?_
            clear hK K HF_
            try clear w_
            rename World => w_
            rw [HKL.out] at H0 ⊢
            repeat (first | (refine pl_calm rfl rfl (by first | exact wanted_none rfl | (go_simp; done) | rfl) (fun w_ => by first | (go_simp; rfl) | (go_simp; done) | rfl) (fun K hK => ?_); go_simp; refine hK _ _ ?_; clear hK K) | (refine pl_skip rfl (by first | (go_simp; done) | rfl) (fun K hK => ?_); go_simp; refine hK _ _ ?_; clear hK K) | (refine pl_skipa rfl (by first | (go_simp; done) | rfl) (fun K hK => ?_); go_simp; refine hK _ _ ?_; clear hK K))
            refine pl_done ?_
            have HR := Lib.hid (show FSz w_ w_.heap.size A5 (i + 1) (L.take k ++ x :: L.drop k) from by have h := FSz.of_sl (Sl.of_own H0.out.2); rw [List.append_assoc] at h; exact h)
            have HCP := Lib.hid (H0.out.cap)
            have v1 := HV1.out
            clear H9 H0 HT HD
            go_wp2_with fail
            go_roundw
            all_goals clear v1
            case rel => exact ⟨i + 1, c5, A5, _, rfl, by go_num, hlt, HCP.out, Lib.hid ⟨HIR.out.1.trans HPX.out, HIR.out.2⟩, HR, HB⟩
            case measure => simp [intOf]; omega
        · skip
          refine pl_act rfl (by exact wanted_none rfl) (fun K hK => ?_)
          show wpList _ _ _ [⟨some _, .buildSlice _ _ _, _, _, _, _⟩] _ _
          go_wp2_with fail
          generalize hw_ : World.alloc w_ _ = w4_
          obtain ⟨hX_, hb_, hs_⟩ := alloc_eq hw_
          have HF_ := Lib.hid (show Below Z w_ w4_ from hb_.mono HT.out.1)
          refine hK _ _ (fun _ => HF_.out) ?_
          clear hK K
          have H9 := Lib.hid (show Blk w4_ w_.heap.size 26 [Fv x] ∧ Z ≤ w_.heap.size from ⟨hX_, HT.out.1⟩)
          replace HT := Lib.hid (HT.out.far HF_.out)
          replace HD := Lib.hid (HD.out.far HF_.out)
          replace HB := Lib.hid (HB.out.trans (HF_.out.mono HZW.out))
          generalize w_.heap.size = g9 at H9 ⊢
          clear hw_ hX_ hb_ hs_ HF_
          try clear w_
          rename World => w_
          refine pl_act rfl (by exact wanted_none rfl) (fun K hK => ?_)
          show wpList _ _ _ [⟨some _, .buildSlice _ _ _, _, _, _, _⟩] _ _
          have HN_ := Lib.hid (World.ownsRow_lit (base := Z) (e := 26) (size := 1) w_ #[] 0 HT.out.1 (by simp [maxLen]) rfl)
          go_wp2_with fail
          generalize hw_ : World.alloc w_ _ = w4_ at HN_ ⊢
          obtain ⟨hX_, hb_, hs_⟩ := alloc_eq hw_
          have HF_ := Lib.hid (show Below Z w_ w4_ from hb_.mono HT.out.1)
          refine hK _ _ (fun _ => HF_.out) ?_
          clear hK K
          have H0 := Lib.hid (show OwnF w4_ Z (some ⟨w_.heap.size, 0, none⟩) 0 0 [] from ⟨Nat.le_trans HT.out.1 hb_.size, HN_.out⟩)
          have H9_ := Lib.hid (show OneF w4_ Z g9 x (some ⟨w_.heap.size, 0, none⟩) from ⟨H9.out.1.grow hb_, H9.out.2, fun e => by have h1 := H9.out.1.lt; have e2 : w_.heap.size = g9 := (by simpa using e); omega⟩)
          clear H9
          have H9 := H9_
          clear H9_
          replace HT := Lib.hid (HT.out.far HF_.out)
          replace HD := Lib.hid (HD.out.far HF_.out)
          replace HB := Lib.hid (HB.out.trans (HF_.out.mono HZW.out))
          generalize w_.heap.size = g0 at *
          clear hw_ hX_ hb_ hs_ HN_ HF_
          try clear w_
          rename World => w_
          refine pl_act rfl (by exact wanted_none rfl) (fun K hK => ?_)
          show wpList _ _ _ [⟨some _, .call _, _, _, _, _⟩] _ _
          go_wp2_with (at_builtin; refine wpl_apps rfl rfl el_f64 H0.out.2 rfl (HT.out.2) rfl (all_f64 _) (by have := HKI2.out; have := HKI.out; omega) (by have := HKI2.out; have := HKI.out; omega) H0.out.1 ?_)
          intro A5 c5 w4_ ho_ hg_ hA_
          have HF_ := Lib.hid (H0.out.far hg_)
          have H0_ := Lib.hid (show OwnF w4_ Z A5 (k) c5 (L.take k) from ⟨Nat.le_trans H0.out.1 hg_.size, by simpa [List.map_append, List.map_take, List.map_drop] using ho_⟩)
          have H9_ := Lib.hid (show Blk w4_ g9 26 [Fv x] ∧ Z ≤ g9 from ⟨H9.out.grown hg_, H9.out.2.1⟩)
          clear H9
          have H9 := H9_
          clear H9_
          replace HT := Lib.hid (HT.out.far HF_.out)
          replace HD := Lib.hid (HD.out.far HF_.out)
          replace HB := Lib.hid (HB.out.trans (HF_.out.mono HZW.out))
          clear H0 ho_ hg_ hA_
          have H0 := H0_
          clear H0_
          go_wp2_with fail
          refine hK _ _ (fun _ => HF_.out) ?_
          clear hK K HF_
          try clear w_
          rename World => w_
          obtain ⟨A0, c0, HA0⟩ : ∃ A0 c0, A0 = A5 ∧ c0 = c5 := ⟨_, _, rfl, rfl⟩
          obtain ⟨rfl, rfl⟩ := HA0
          refine pl_act rfl (by exact wanted_none rfl) (fun K hK => ?_)
          show wpList _ _ _ [⟨some _, .call _, _, _, _, _⟩] _ _
          go_wp2_with (at_builtin; refine wpl_apps rfl rfl el_f64 H0.out.2 rfl (Blk.sl H9.out.1 (by simp)) rfl (one_f64 x) (by have := HKI2.out; have := HKI.out; omega) (by have := HKI2.out; have := HKI.out; omega) H0.out.1 ?_)
          intro A5 c5 w4_ ho_ hg_ hA_
          have HF_ := Lib.hid (H0.out.far hg_)
          have H0_ := Lib.hid (show OwnF w4_ Z A5 (k + 1) c5 (L.take k ++ [x]) from ⟨Nat.le_trans H0.out.1 hg_.size, by simpa [List.map_append, List.map_take, List.map_drop] using ho_⟩)
          replace HT := Lib.hid (HT.out.far HF_.out)
          replace HD := Lib.hid (HD.out.far HF_.out)
          replace HB := Lib.hid (HB.out.trans (HF_.out.mono HZW.out))
          clear H0 ho_ hg_ hA_
          have H0 := H0_
          clear H0_
          go_wp2_with fail
          refine hK _ _ (fun _ => HF_.out) ?_
          clear hK K HF_
          try clear w_
          rename World => w_
          refine pl_act rfl (by exact wanted_none rfl) (fun K hK => ?_)
          show wpList _ _ _ [⟨some _, .call _, _, _, _, _⟩] _ _
          go_wp2_with (at_builtin; refine wpl_apps rfl rfl el_f64 H0.out.2 rfl (HD.out.2) rfl (all_f64 _) (by have := HKI2.out; have := HKI.out; omega) (by have := HKI2.out; have := HKI.out; omega) H0.out.1 ?_)
          intro A5 c5 w4_ ho_ hg_ hA_
          have HF_ := Lib.hid (H0.out.far hg_)
          have H0_ := Lib.hid (show OwnF w4_ Z A5 ((k + 1) + (i - k)) c5 ((L.take k ++ [x]) ++ L.drop k) from ⟨Nat.le_trans H0.out.1 hg_.size, by simpa [List.map_append, List.map_take, List.map_drop] using ho_⟩)
          replace HT := Lib.hid (HT.out.far HF_.out)
          replace HD := Lib.hid (HD.out.far HF_.out)
          replace HB := Lib.hid (HB.out.trans (HF_.out.mono HZW.out))
          clear H0 ho_ hg_ hA_
          have H0 := H0_
          clear H0_
          go_wp2_with fail
          refine hK _ _ (fun _ => HF_.out) ?_
          clear hK K HF_
          try clear w_
          rename World => w_
          rw [HKL.out] at H0 ⊢
          repeat (first | (refine pl_calm rfl rfl (by first | exact wanted_none rfl | (go_simp; done) | rfl) (fun w_ => by first | (go_simp; rfl) | (go_simp; done) | rfl) (fun K hK => ?_); go_simp; refine hK _ _ ?_; clear hK K) | (refine pl_skip rfl (by first | (go_simp; done) | rfl) (fun K hK => ?_); go_simp; refine hK _ _ ?_; clear hK K) | (refine pl_skipa rfl (by first | (go_simp; done) | rfl) (fun K hK => ?_); go_simp; refine hK _ _ ?_; clear hK K))
          refine pl_done ?_
          have HR := Lib.hid (show FSz w_ w_.heap.size A5 (i + 1) (L.take k ++ x :: L.drop k) from by have h := FSz.of_sl (Sl.of_own H0.out.2); rw [List.append_assoc] at h; exact h)
          have HCP := Lib.hid (H0.out.cap)
          have v1 := HV1.out
          clear H9 H0 HT HD
          go_wp2_with fail
          go_roundw
          all_goals clear v1
          case rel => exact ⟨i + 1, c5, A5, _, rfl, by go_num, hlt, HCP.out, Lib.hid ⟨HIR.out.1.trans HPX.out, HIR.out.2⟩, HR, HB⟩
          case measure => simp [intOf]; omega
    · obtain rfl : i = n := by omega
      have HE := Lib.hid (show L.Perm xs by have h := HP.out.1; rw [List.take_of_length_le (by rw [HLN.out]; exact Nat.le_refl _)] at h; exact h)
      go_wp2_with fail
      go_ret
      exact ⟨A3, c3, rfl, HB.out, L, HE.out, HP.out.2, HF.out⟩
end Go.Proofs.Ytccigmpbcjlogaa

/- Rates: whether two are the same, and what their order says of it. -/
namespace Go.Proofs.Ytccigmpbcjlogaa
open Go.RowKit
set_option linter.unusedVariables false
def sameF (x y : Nat) : Bool := (x == y) || (nanB x && nanB y)
theorem rsame_any (x y : Nat) (w : World) (hx : x < 2^64) (hy : y < 2^64) : Calls Try.prog 7 #[.float .f64 x, .float .f64 y] w fun e w' => e = .returned (.bool (sameF x y)) ∧ w = w' := by
  have h1 := ord_ne x x hx hx
  have h2 := ord_ne y y hy hy
  rw [eqF_self, Bool.not_not] at h1 h2
  have e1 := ext_bits x
  have e2 := ext_bits y
  rw [sameF]
  by_cases hxy : x = y
  · subst hxy
    rw [show (x == x) = true by simp, Bool.true_or]
    clear h1 h2 e2
    go_enter Try.func7, Try.ntmps7
    go_wp2
    go_ret
    exact ⟨rfl, rfl⟩
  · have hb : (x == y) = false := beq_eq_false_iff_ne.2 hxy
    have hb2 : ((x : Int) == (y : Int)) = false := beq_eq_false_iff_ne.2 (by omega)
    rw [hb, Bool.false_or]
    generalize nanB x = b1 at *
    generalize nanB y = b2 at *
    clear hxy hb
    cases b1
    · clear h2
      go_enter Try.func7, Try.ntmps7
      go_wp2
      go_ret
      exact ⟨rfl, rfl⟩
    · cases b2
      all_goals
        go_enter Try.func7, Try.ntmps7
        go_wp2
        go_ret
        exact ⟨rfl, rfl⟩
theorem sameF_key {x y : Nat} (hx : x < 2^64) (hy : y < 2^64) : sameF x y = true ↔ keyF x = keyF y := by
  have a1 : x / 2^63 < 2 := by omega
  have a2 : y / 2^63 < 2 := by omega
  unfold sameF
  cases h1 : nanB x with
  | true =>
    cases h2 : nanB y with
    | true => simp [keyF_nan h1, keyF_nan h2]
    | false =>
      rw [keyF_nan h1, keyF_num hy h2]
      have hr := rung_le h2
      have hi := inf_lt
      have hne : x ≠ y := fun e => by rw [e, h2] at h1; cases h1
      simp only [Bool.true_and, Bool.or_false, beq_iff_eq]
      constructor
      · exact fun e => absurd e hne
      · intro e; split at e <;> omega
  | false =>
    cases h2 : nanB y with
    | true =>
      rw [keyF_nan h2, keyF_num hx h1]
      have hr := rung_le h1
      have hi := inf_lt
      have hne : x ≠ y := fun e => by rw [← e, h1] at h2; cases h2
      simp only [Bool.false_and, Bool.or_false, beq_iff_eq]
      constructor
      · exact fun e => absurd e hne
      · intro e; split at e <;> omega
    | false =>
      rw [keyF_num hx h1, keyF_num hy h2]
      have r1 := rung_le h1; have r2 := rung_le h2
      have hi := inf_lt
      simp only [Bool.false_and, Bool.or_false, beq_iff_eq]
      unfold negB
      unfold rung at *
      constructor
      · intro e; subst e; rfl
      · intro e
        split at e <;> rename_i e1 <;> split at e <;> rename_i e2 <;> simp only [decide_eq_true_eq, Nat.not_le] at e1 e2 <;> omega
theorem cmpK_zero {x y : Nat} (hx : x < 2^64) (hy : y < 2^64) : cmpK x y = 0 ↔ sameF x y = true := by
  rw [sameF_key hx hy]; unfold cmpK cmpN
  constructor
  · intro h; split at h
    · omega
    · split at h <;> omega
  · intro h; rw [h]; simp
end Go.Proofs.Ytccigmpbcjlogaa

/- Arguments opened: arrays of bytes, as the row's reading gives them. -/
namespace Go.Proofs.Ytccigmpbcjlogaa
open Go.RowKit Go.ChangeShapes Go.WideShapes
set_option linter.unusedVariables false
section
variable {H : Type} {enc : TypeId × Value → H} {P : Program} {w : World} {base : Nat} {spare : Nat → Bool} {held : Bool}

theorem trod_bytes {t e : TypeId} {n : Nat} {fuel : Nat} {cs : List Value} {x : DataW H × List MemPlace} (ht : P.underlying t = some (.array n e)) (he : P.underlying e = some (.int .u8)) (hce : P.cellsOf e = 1) (hct : P.cellsOf t = n)
    (h : DataW.trod enc P w base spare held fuel t cs = some x) : ∃ ds : List UInt8, cs = ds.map B ∧ ds.length = n := by
  obtain ⟨xs, m, rfl, rfl, hl, hxl, hi⟩ := DataW.trod_array ht h
  rw [hct] at hl
  refine ⟨cs.map (fun v => match v with | .int _ z => UInt8.ofNat z.toNat | _ => 0), ?_, by rw [List.length_map, hl]⟩
  apply List.ext_getElem?
  intro i
  by_cases hin : i < n
  · have h1 := hi i hin
    rw [hce, Nat.mul_one, List.getElem?_eq_getElem (by omega)] at h1
    obtain ⟨z, h2, _, h3⟩ := DataW.trod_int he h1
    have h4 : cs[i]? = some (.int .u8 z) := by
      have := congrArg List.head? h2
      rw [List.take_one] at this
      simpa using this
    have hz := bounds_u8 h3
    rw [List.getElem?_map, List.getElem?_map, h4]
    simp only [Option.map_some, B, b8]
    congr 2
    rw [UInt8.toNat_ofNat']
    omega
  · rw [List.getElem?_eq_none (by omega), List.getElem?_eq_none (by simp; omega)]
end


theorem open_arr32 {H : Type} {enc : TypeId × Value → H} {P : Program} {w : World} {r : Reach} {b0 base : Nat} {spare : Nat → Bool} {held : Bool} {t e : TypeId} {v : Value} {d : DataW H} {ps : List MemPlace}
    (ht : P.underlying t = some (.array 32 e)) (he : P.underlying e = some (.int .u8)) (hce : P.cellsOf e = 1) (hct : P.cellsOf t = 32) (hval : Value.okWide P w r b0 t v) (h : DataW.Trod enc P w base spare held t v d ps) :
    ∃ ds : List UInt8, v = .agg (ds.map B).toArray ∧ ds.length = 32 := by
  simp only [Value.okWide, ht] at hval
  obtain ⟨cs, rfl, hsz, _⟩ := hval
  obtain ⟨fuel, hf⟩ := h
  obtain ⟨ds, h1, h2⟩ := trod_bytes ht he hce hct hf
  refine ⟨ds, ?_, h2⟩
  simp only [Value.cells] at h1
  rw [← h1]
end Go.Proofs.Ytccigmpbcjlogaa

/- Arguments opened: slices, of whatever elements; slices of bytes, of slices of bytes, of digests. -/
namespace Go.Proofs.Ytccigmpbcjlogaa
open Go.RowKit Go.ChangeShapes Go.WideShapes Go.Deep
set_option linter.unusedVariables false
section
variable {H : Type} {enc : TypeId × Value → H} {P : Program} {w : World} {r : Reach} {b0 base : Nat} {spare : Nat → Bool} {held : Bool}

theorem flat_len {α : Type} {f : α → List Value} {sz : Nat} : ∀ {l : List α}, (∀ x ∈ l, (f x).length = sz) → (l.flatMap f).length = l.length * sz
  | [], _ => by simp
  | x :: l, h => by
    rw [List.flatMap_cons, List.length_append, h x (by simp), flat_len (l := l) (fun y hy => h y (by simp [hy])), List.length_cons, Nat.succ_mul, Nat.add_comm]
theorem flat_at {α : Type} {f : α → List Value} {sz : Nat} : ∀ {l : List α}, (∀ x ∈ l, (f x).length = sz) → 0 < sz → ∀ {j : Nat} {u : Value}, (l.flatMap f)[j]? = some u → ∃ x, l[j / sz]? = some x ∧ (f x)[j % sz]? = some u
  | [], _, _, j, u, hu => by simp at hu
  | x :: l, h, h0, j, u, hu => by
    rw [List.flatMap_cons] at hu
    have hx := h x (by simp)
    by_cases hj : j < sz
    · rw [List.getElem?_append_left (by omega)] at hu
      refine ⟨x, by rw [Nat.div_eq_of_lt hj]; rfl, by rw [Nat.mod_eq_of_lt hj]; exact hu⟩
    · rw [List.getElem?_append_right (by omega), hx] at hu
      obtain ⟨y, h1, h2⟩ := flat_at (l := l) (fun y hy => h y (by simp [hy])) h0 hu
      have e1 : j / sz = (j - sz) / sz + 1 := by rw [← Nat.div_eq_sub_div h0 (by omega)]
      have e2 : j % sz = (j - sz) % sz := by rw [Nat.mod_eq_sub_mod (by omega)]
      exact ⟨y, by rw [e1, List.getElem?_cons_succ]; exact h1, by rw [e2]; exact h2⟩

/-- A slice that came in, of elements whose cells are 'f x'. -/
theorem open_list0 {α : Type} [Inhabited α] (f : α → List Value) (ok : α → Prop) {t e : TypeId} {fuel : Nat} {cs : List Value} {y : DataW H × List MemPlace} {sz : Nat} (ht : P.underlying t = some (.slice e)) (hce : P.cellsOf e = sz) (hsz : 0 < sz)
    (helem : ∀ fuel cs y, cs.length = sz → DataW.trod enc P w base spare held fuel e cs = some y → ∃ x, cs = f x ∧ ok x)
    (hf : DataW.trod enc P w base spare held fuel t cs = some y) :
    ∃ A n c, ∃ l : List α, cs = [.slice A n c] ∧ l.length = n ∧ n ≤ c ∧ c ≤ maxLen ∧ Sl w w.heap.size sz A n (l.flatMap f) ∧ (∀ x ∈ l, ok x) ∧ (∀ x ∈ l, (f x).length = sz) := by
  rcases open_slice ht hf with ⟨hcs, _⟩ | ⟨a, n, c, m, k, D, Pl, hcs, _, hl, hm, hmm, _, hx⟩
  · subst hcs
    exact ⟨none, 0, 0, [], rfl, rfl, Nat.le_refl _, Nat.zero_le _, ⟨by simp, fun h => absurd h (by omega)⟩, by simp, by simp⟩
  · subst hcs
    have hle : n ≤ m := by rw [hmm]; split <;> omega
    rw [hce] at hx
    obtain ⟨X, hX⟩ := choose_lt (n := n) (p := fun i (x : α) => w.cells? base (a.add (i * sz)) sz = some (f x) ∧ (f x).length = sz ∧ ok x) (fun i hi => by
      obtain ⟨cs', h1, h2⟩ := hx i (by omega)
      obtain ⟨_, hlen, _⟩ := World.cells?_some h1
      obtain ⟨x, e, hok⟩ := helem _ _ _ hlen h2
      exact ⟨x, by rw [← e]; exact h1, by rw [← e]; exact hlen, hok⟩)
    have hlen : ∀ x ∈ (List.range n).map X, (f x).length = sz := by
      intro x hx
      obtain ⟨i, hi, rfl⟩ := List.mem_map.1 hx
      exact (hX i (by simpa using hi)).2.1
    refine ⟨some a, n, c, (List.range n).map X, rfl, by simp, hl, hm, ⟨by rw [flat_len hlen]; simp, fun hn => ?_⟩, ?_, hlen⟩
    · obtain ⟨b, off, spot⟩ := a
      obtain ⟨_, _, h0⟩ := World.cells?_some (hX 0 hn).1
      have h00 := h0 0 hsz
      have hc0 : ∃ u, w.cell? ((Addr.add ⟨b, off, spot⟩ (0 * sz)).add 0) = some u := ⟨_, by rw [h00, List.getElem?_eq_getElem (by rw [(hX 0 hn).2.1]; exact hsz)]⟩
      obtain ⟨u0, hu0⟩ := hc0
      have hspot : spot = none := by simpa [Addr.add] using World.cell?_spot hu0
      subst hspot
      refine ⟨b, off, rfl, by have := World.block_lt_of_cell? w _ hu0; simpa [Addr.add] using this, fun j u hu => ?_⟩
      obtain ⟨x, h1, h2⟩ := flat_at hlen hsz hu
      rw [List.getElem?_map] at h1
      obtain ⟨i, h3, rfl⟩ := Option.map_eq_some_iff.1 h1
      have hi : j / sz = i ∧ i < n := by
        rcases Nat.lt_or_ge (j / sz) n with hl | hl
        · rw [List.getElem?_range hl] at h3; cases h3; exact ⟨rfl, hl⟩
        · rw [List.getElem?_eq_none (by simpa using hl)] at h3; cases h3
      obtain ⟨_, _, hc⟩ := World.cells?_some (hX i hi.2).1
      have := hc (j % sz) (Nat.mod_lt _ hsz)
      rw [h2, Addr.add_lit, Addr.add_lit] at this
      rw [← this, ← hi.1]
      have := Nat.div_add_mod j sz
      have e : off + j = off + j / sz * sz + j % sz := by rw [Nat.mul_comm] at this; omega
      rw [e]
    · intro x hx
      obtain ⟨i, hi, rfl⟩ := List.mem_map.1 hx
      exact (hX i (by simpa using hi)).2.2

theorem open_list {α : Type} [Inhabited α] (f : α → List Value) (ok : α → Prop) {t e : TypeId} {v : Value} {d : DataW H} {ps : List MemPlace} {sz : Nat} (ht : P.underlying t = some (.slice e)) (hce : P.cellsOf e = sz) (hsz : 0 < sz)
    (helem : ∀ fuel cs y, cs.length = sz → DataW.trod enc P w base spare held fuel e cs = some y → ∃ x, cs = f x ∧ ok x)
    (hval : Value.okWide P w r b0 t v) (h : DataW.Trod enc P w base spare held t v d ps) :
    ∃ A n c, ∃ l : List α, v = .slice A n c ∧ l.length = n ∧ n ≤ c ∧ c ≤ maxLen ∧ Sl w w.heap.size sz A n (l.flatMap f) ∧ (∀ x ∈ l, ok x) ∧ (∀ x ∈ l, (f x).length = sz) := by
  obtain ⟨A, n, c, rfl⟩ := okWide_slice ht hval
  obtain ⟨fuel, hf⟩ := h
  obtain ⟨A', n', c', l, h1, hr⟩ := open_list0 f ok ht hce hsz helem hf
  have h1 : A = A' ∧ n = n' ∧ c = c' := by simpa [Value.cells] using h1
  obtain ⟨rfl, rfl, rfl⟩ := h1
  exact ⟨A, n, c, l, rfl, hr⟩

theorem flat_one {α : Type} (g : α → Value) (l : List α) : l.flatMap (fun x => [g x]) = l.map g := by
  induction l with
  | nil => rfl
  | cons x l ih => simp [ih]

theorem trod_u8 {e : TypeId} (he : P.underlying e = some (.int .u8)) {fuel : Nat} {cs : List Value} {y : DataW H × List MemPlace} (h : DataW.trod enc P w base spare held fuel e cs = some y) : ∃ x : UInt8, cs = [B x] ∧ True := by
  obtain ⟨z, h1, _, h2⟩ := DataW.trod_int he h
  have hz := bounds_u8 h2
  refine ⟨UInt8.ofNat z.toNat, ?_, trivial⟩
  rw [h1]
  simp only [B, b8]
  congr 2
  rw [UInt8.toNat_ofNat']; omega
theorem open_u8s0 {t e : TypeId} {fuel : Nat} {cs : List Value} {y : DataW H × List MemPlace} (ht : P.underlying t = some (.slice e)) (he : P.underlying e = some (.int .u8)) (hce : P.cellsOf e = 1) (h : DataW.trod enc P w base spare held fuel t cs = some y) :
    ∃ A n c, ∃ bs : List UInt8, cs = [.slice A n c] ∧ Sl w w.heap.size 1 A n (bs.map B) ∧ n ≤ c ∧ c ≤ maxLen ∧ bs.length = n := by
  obtain ⟨A, n, c, l, h1, h2, h3, h4, h5, _⟩ := open_list0 (fun x : UInt8 => [B x]) (fun _ => True) ht hce (by omega) (fun fuel cs y _ h => trod_u8 he h) h
  exact ⟨A, n, c, l, h1, by rw [← flat_one]; exact h5, h3, h4, h2⟩
theorem open_u8s {t e : TypeId} {v : Value} {d : DataW H} {ps : List MemPlace} (ht : P.underlying t = some (.slice e)) (he : P.underlying e = some (.int .u8)) (hce : P.cellsOf e = 1) (hval : Value.okWide P w r b0 t v) (h : DataW.Trod enc P w base spare held t v d ps) :
    ∃ A n c, ∃ bs : List UInt8, v = .slice A n c ∧ Sl w w.heap.size 1 A n (bs.map B) ∧ n ≤ c ∧ c ≤ maxLen := by
  obtain ⟨A, n, c, l, h1, h2, h3, h4, h5, _⟩ := open_list (fun x : UInt8 => [B x]) (fun _ => True) ht hce (by omega) (fun fuel cs y _ h => trod_u8 he h) hval h
  exact ⟨A, n, c, l, h1, by rw [← flat_one]; exact h5, h3, h4⟩
end
end Go.Proofs.Ytccigmpbcjlogaa

/- Arguments opened: slices of float64. -/
namespace Go.Proofs.Ytccigmpbcjlogaa
open Go.RowKit Go.ChangeShapes Go.WideShapes
set_option linter.unusedVariables false
set_option maxRecDepth 100000
section
variable {H : Type} {enc : TypeId × Value → H} {w : World} {r : Reach} {b0 base : Nat} {spare : Nat → Bool} {held : Bool}
theorem trod_f64 {fuel : Nat} {cs : List Value} {y : DataW H × List MemPlace} (h : DataW.trod enc Try.prog w base spare held fuel 26 cs = some y) : ∃ x : Nat, cs = [.float .f64 x] ∧ x < 2 ^ 64 := by
  cases fuel with
  | zero => simp [DataW.trod] at h
  | succ f =>
    simp only [DataW.trod, Try.underlying26] at h
    cases cs with
    | nil => simp at h
    | cons v r =>
      cases r with
      | cons a b => cases v <;> simp at h
      | nil =>
        cases v with
        | float k' b =>
          simp only [Option.ite_none_right_eq_some] at h
          obtain ⟨⟨rfl, hw⟩, _⟩ := h
          exact ⟨b, rfl, by simpa [Lit.wf] using hw⟩
        | _ => simp at h
theorem open_f64s {v : Value} {d : DataW H} {ps : List MemPlace} (hval : Value.okWide Try.prog w r b0 22 v) (h : DataW.Trod enc Try.prog w base spare held 22 v d ps) :
    ∃ A n c, ∃ xs : List Nat, v = .slice A n c ∧ Sl w w.heap.size 1 A n (xs.map (Value.float .f64)) ∧ ∀ x ∈ xs, x < 2 ^ 64 := by
  obtain ⟨A, n, c, l, h1, h2, h3, h4, h5, h6, _⟩ := open_list (fun x : Nat => [Value.float .f64 x]) (fun x => x < 2 ^ 64) Try.underlying22 (by kernel_rfl) (show 0 < 1 by omega) (fun fuel cs y _ h => trod_f64 h) hval h
  exact ⟨A, n, c, l, h1, by rw [← flat_one]; exact h5, h6⟩
end
end Go.Proofs.Ytccigmpbcjlogaa

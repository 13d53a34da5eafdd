/- Contracts of layer 6: the ring. -/
import Derived.Test.YtphmefhnffoafaaGreatDoorCertTurnedU14
import Derived.Laws.ResultCell
set_option linter.unusedSimpArgs false
namespace Go.Proofs.YtphmefhnffoafaaGreatDoor
open Go.RowKit Go.Shelf
set_option linter.unusedVariables false
theorem ret_cell2 {P : Program} {w : World} {a : Act} {fn : Func} {p u : Tmp} {ty : TypeId} (h : fn.results = #[.cell p ty, .tmp u]) {n : Nat} (hT : RowT P ty n) {g : Nat} {t : TypeId} {cs : List Value} (hb : Blk w g t cs) (hp : a.tmps.getD p undef = .pointer (some ⟨g, 0, none⟩)) (hn : cs.length = n) (hd : a.defers = [])
  {v : Value} (hv : a.tmps.getD u undef = v) {R : Ending → World → Prop} (hR : R (.returned (.tuple #[.agg cs.toArray, v])) w) : bodyPost P fn R .ret a w := by
 obtain ⟨d, hu, hdd, hi⟩ := hT
 refine bodyPost_ret ?_ hd hR
 rw [results_cell_tmp h, hp, hv]
 have hrun := run_loadVar_row (P := P) w g t ty cs.toArray (0, 0) d hb hu (by revert hdd; cases d <;> simp) (by rw [hi]; simp [hn])
 simp only [asAddr, Sem.run_pure, Result.andThen_ok, hrun]
theorem info_id : (Tryz.prog.info? 24).map (fun i => (i.zero, i.size, i.bytes)) = some (some (.agg (List.replicate 32 (B 0)).toArray), 32, 32) := by kernel_rfl
theorem el_id : ElemT Tryz.prog 31 24 32 32 := elemT Tryz.underlying31 info_id rfl (by omega)
theorem fold_set_aux : ∀ (ys : List Value) (k : Nat) (z : Array Value), z.size = k + ys.length → ((ys.zipIdx k).foldl (fun cs x => cs.setIfInBounds x.2 x.1) z).toList = z.toList.take k ++ ys
 | [], k, z, h => by
  simp only [List.zipIdx_nil, List.foldl_nil, List.append_nil]
  rw [List.take_of_length_le (by simpa using Nat.le_of_eq h)]
 | y :: ys, k, z, h => by
  rw [List.zipIdx_cons, List.foldl_cons, fold_set_aux ys (k + 1) _ (by simp only [Array.size_setIfInBounds, List.length_cons] at *; omega)]
  simp only [Array.toList_setIfInBounds]
  have hk : k < z.toList.length := by simp only [List.length_cons, Array.length_toList] at *; omega
  rw [List.take_add_one, List.getElem?_set_self hk, Option.toList_some, List.take_set_of_le (Nat.le_refl _), List.append_assoc]
  rfl
theorem fold_set (z : Array Value) (ys : List Value) (h : z.size = ys.length) : (ys.zipIdx.foldl (fun cs x => cs.setIfInBounds x.2 x.1) z).toList = ys := by
 have := fold_set_aux ys 0 z (by omega)
 simpa using this
def ringB (seed : List UInt8) (n : Nat) : List (List UInt8) := (List.range n).map fun i => tagB seed [UInt8.ofNat i]
def idCells (ds : List (List UInt8)) : List Value := ds.flatMap (·.map B)
theorem idCells_snoc (ds : List (List UInt8)) (d : List UInt8) : idCells (ds ++ [d]) = idCells ds ++ d.map B := by unfold idCells; simp
theorem ringB_succ (seed : List UInt8) (k : Nat) : ringB seed (k + 1) = ringB seed k ++ [tagB seed [UInt8.ofNat k]] := by unfold ringB; rw [List.range_succ, List.map_append]; rfl
theorem ringB_len (seed : List UInt8) (k : Nat) : (ringB seed k).length = k := by unfold ringB; simp
theorem ringB_all (seed : List UInt8) (k : Nat) : ∀ d ∈ ringB seed k, d.length = 32 := by
 intro d hd; unfold ringB at hd; obtain ⟨i, _, rfl⟩ := List.mem_map.1 hd; exact tagB_length _ _
theorem ringB_at (seed : List UInt8) {n k : Nat} (hk : k < n) : (ringB seed n)[k]? = some (tagB seed [UInt8.ofNat k]) := by
 unfold ringB; rw [List.getElem?_map, List.getElem?_range hk]; rfl
def RCell (w : World) (g : Nat) (A : Option Addr) (n c : Nat) : Prop := Blk w g 55 [.slice A n c]
theorem RCell.grow {w w' : World} {g : Nat} {A : Option Addr} {n c : Nat} (h : RCell w g A n c) (k : Grow w w') : RCell w' g A n c := Blk.grow h k
theorem RCell.cell {w : World} {g : Nat} {A : Option Addr} {n c : Nat} (h : RCell w g A n c) : w.cell? ⟨g, 0, none⟩ = some (.slice A n c) := Blk.at_ h rfl
def Ids (w : World) (A : Option Addr) (n c : Nat) (ds : List (List UInt8)) : Prop := Sl w w.heap.size 32 A n (idCells ds) ∧ ds.length = n ∧ (∀ d ∈ ds, d.length = 32) ∧ n ≤ c
theorem Ids.grow {w w' : World} {A : Option Addr} {n c : Nat} {ds : List (List UInt8)} (h : Ids w A n c ds) (k : Grow w w') : Ids w' A n c ds := ⟨h.1.grow k, h.2⟩
theorem Ids.key {w : World} {A : Option Addr} {n c k : Nat} {ds : List (List UInt8)} (h : Ids w A n c ds) (hk : k < n) : ∃ b off d, A = some ⟨b, off, none⟩ ∧ ds[k]? = some d ∧ d.length = 32 ∧ b < w.heap.size ∧ ∀ j u, (d.map B)[j]? = some u → w.cell? ⟨b, off + k * 32 + j, none⟩ = some u := by
 obtain ⟨h1, h2, h3, h4⟩ := h
 obtain ⟨b, off, e, hb, hc⟩ := h1.2 (by omega)
 have hlen : ∀ x ∈ ds, (x.map B).length = 32 := fun x hx => by rw [List.length_map]; exact h3 x hx
 have hd : ds[k]? = some (ds[k]'(by omega)) := List.getElem?_eq_getElem (by omega)
 refine ⟨b, off, _, e, hd, h3 _ (List.mem_of_getElem? hd), hb, fun j u hu => ?_⟩
 have hj : j < 32 := by have := (List.getElem?_eq_some_iff.1 hu).1; rw [List.length_map, h3 _ (List.mem_of_getElem? hd)] at this; exact this
 have hfl : (idCells ds).length = ds.length * 32 := flat_len hlen
 have hi : k * 32 + j < (idCells ds).length := by rw [hfl]; omega
 obtain ⟨x, hx, hxj⟩ := flat_at hlen (by omega) (List.getElem?_eq_getElem hi)
 have e1 : (k * 32 + j) / 32 = k := by omega
 have e2 : (k * 32 + j) % 32 = j := by omega
 rw [e1, hd] at hx
 cases hx
 rw [e2, hu] at hxj
 have := hc (k * 32 + j) u (by rw [List.getElem?_eq_getElem hi]; exact hxj.symm)
 rw [Nat.add_assoc]; exact this
theorem Ids.sl {w : World} {b off n c k : Nat} {ds : List (List UInt8)} {d : List UInt8} (h : Ids w (some ⟨b, off, none⟩) n c ds) (hk : ds[k]? = some d) : Sl w w.heap.size 1 (some ⟨b, off + k * 32, none⟩) 32 (d.map B) := by
 have hkn : k < n := by have := (List.getElem?_eq_some_iff.1 hk).1; rw [h.2.1] at this; exact this
 obtain ⟨b', off', d', e, h1, h2, h3, h4⟩ := h.key hkn
 cases e
 rw [hk] at h1; cases h1
 exact ⟨by rw [List.length_map, h2], fun _ => ⟨_, _, rfl, h3, h4⟩⟩
def RingAt (w : World) (g : Nat) (A : Option Addr) (n c : Nat) (ds : List (List UInt8)) : Prop := RCell w g A n c ∧ Ids w A n c ds
theorem RingAt.grow {w w' : World} {g : Nat} {A : Option Addr} {n c : Nat} {ds : List (List UInt8)} (h : RingAt w g A n c ds) (k : Grow w w') : RingAt w' g A n c ds := ⟨h.1.grow k, h.2.grow k⟩
theorem RingAt.cell {w : World} {g : Nat} {A : Option Addr} {n c : Nat} {ds : List (List UInt8)} (h : RingAt w g A n c ds) : w.cell? ⟨g, 0, none⟩ = some (.slice A n c) := h.1.cell
def KInv (w wr : World) (A : Option Addr) (c k : Nat) (seed : List UInt8) : Prop :=
 RCell wr w.heap.size A k c ∧ wr.ownsRow (w.heap.size + 1) 24 32 (.slice A k c) k (idCells (ringB seed k)) ∧ Below w.heap.size w wr
set_option maxRecDepth 100000 in
set_option maxHeartbeats 1000000 in
theorem keys_yes (A : Option Addr) (n c N : Nat) (seed : List UInt8) (w : World) (hs : Sl w w.heap.size 1 A n (seed.map B)) (hc : n ≤ c) (hn : n ≤ 1099511627776) (h1 : 1 ≤ N) (h64 : N ≤ 64) (ht : Tabs w) :
  Calls Tryz.prog 5 #[.slice A n c, .int .i64 N] w fun e w' => ∃ g A' c', e = .returned (.pointer (some ⟨g, 0, none⟩)) ∧ RingAt w' g A' N c' (ringB seed N) ∧ Below w.heap.size w w' := by
 have HS := kp hs; have HT := kp ht
 have HB := kp (Below.refl w.heap.size w)
 clear hs ht
 have g1 : decide ((N : Int) < 1) = false := by simp; omega
 have g2 : decide (64 < (N : Int)) = false := by simp; omega
 have hst := alloc_new w #[.slice none 0 0] 55
 have HST := kp hst
 clear hst
 go_enter Tryz.func5, Tryz.ntmps5
 go_wp2_with fail
 go_loopw [16] (fun i wr => ∃ k : Nat, ∃ A' c', k ≤ N ∧ i = .int .i64 k ∧ Hid (KInv w wr A' c' k seed)) (fun i _ => N - (intOf i).toNat)
 case atStart => exact ⟨0, none, 0, by omega, rfl, kp ⟨HST.out.1, by simpa [ringB, idCells] using World.ownsRow_nil _ _ _ _, HST.out.2.1⟩⟩
 case round =>
  obtain ⟨k, A3, c3, hk, rfl, hinv⟩ := hrel
  clear HB HST
  by_cases hlt : k < N
  ·have q8 : IntKind.u8.wrap (k : Int) = (k : Int) := IntWalk.u8_in _ (by omega)
   have HB := kp hinv.out.2.2
   have HK1 := kp hinv.out.1
   have HK2 := kp hinv.out.2.1
   have HS1 := kp (HS.out.grow HB.out)
   have HT1 := kp (HT.out.grow HB.out)
   obtain ⟨ys, hys⟩ : ∃ ys, ys = (tagB seed [UInt8.ofNat k]).map B := ⟨_, rfl⟩
   have HY := kp (show Dig ys (tagB seed [UInt8.ofNat k]) from ⟨hys, tagB_length _ _⟩)
   have HW := kp (show Value.int .u8 (k : Int) = B (UInt8.ofNat k) by simp only [B, b8, UInt8.toNat_ofNat']; congr 1; omega)
   clear hinv hys
   try go_wp2_with fail
   repeat' (first | (with_reducible refine wp_plan (id := 7) Grow [0,0,0,0,1,0,0,0,4,4,4,3,0,0,3] (.get 0 (.get 1 (.get 2 (.get 3 (.get 4 (.get 5 (.get 6 (.get 7 (.act 8 (.act 9 (.act 10 (.act 11 (.get 12 (.get 13 (.act 14 .done))))))))))))))) (by kernel_rfl) (by kernel_rfl) Grow.refl Grow.trans ?_) | go_values | go_skip | go_guarded | go_step | go_upon | go_back)
   intro w_ hd_
   have hb_ := hd_.grow
   replace HB := kp (HB.out.grow' hb_)
   replace HS1 := kp (HS1.out.grow hb_)
   replace HT1 := kp (HT1.out.grow hb_)
   replace HK1 := kp (HK1.out.grow hb_)
   replace HK2 := kp (HK2.out.grow hb_)
   clear hb_ hd_
   repeat (first | (refine pl_calm rfl rfl (by first | exact wanted_none rfl | (go_simp; done) | rfl) (fun w_ => by first | (go_simp; rfl) | (go_simp; done) | rfl) (fun K hK => ?_); go_simp; refine hK _ _ ?_; clear hK K) | (refine pl_skip rfl (by first | (go_simp; done) | rfl) (fun K hK => ?_); go_simp; refine hK _ _ ?_; clear hK K) | (refine pl_skipa rfl (by first | (go_simp; done) | rfl) (fun K hK => ?_); go_simp; refine hK _ _ ?_; clear hK K) | (refine pl_load rfl rfl (by first | exact wanted_none rfl | (go_simp; done) | rfl) rfl (by first | rfl | (go_simp; rfl)) (by kernel_rfl) (by first | exact HK1.out.cell) (fun K hK => ?_); go_simp; refine hK _ _ ?_; clear hK K) | (refine pl_loadnow rfl rfl (by first | exact wanted_none rfl | (go_simp; done) | rfl) rfl (by first | rfl | (go_simp; rfl)) (by kernel_rfl) (by first | exact HK1.out.cell) (fun K hK => ?_); go_simp; refine hK _ _ ?_; clear hK K))
   refine pl_act rfl (by first | exact wanted_none rfl | (go_simp; done) | rfl) (fun K hK => ?_)
   go_wp2_with fail
   generalize hw_ : World.alloc w_ _ = w2_
   obtain ⟨hX_, hb_, hs_⟩ := alloc_eq hw_
   generalize hg_ : w_.heap.size = g1 at hX_ hs_ ⊢
   refine hK _ _ (fun _ => hb_) ?_
   have HX := kp hX_
   clear hK K hw_ hX_
   replace HB := kp (HB.out.grow' hb_)
   replace HS1 := kp (HS1.out.grow hb_)
   replace HT1 := kp (HT1.out.grow hb_)
   replace HK1 := kp (HK1.out.grow hb_)
   replace HK2 := kp (HK2.out.grow hb_)
   clear hb_ hg_ hs_
   clear w_
   rename World => w_
   have HSB := kp (show Sl w_ w_.heap.size 1 (some ⟨g1, 0, none⟩) 1 ([UInt8.ofNat k].map B) by have h := HX.out.sl (sz := 1) (n := 1) rfl; rw [show [Value.int .u8 (k : Int)] = [UInt8.ofNat k].map B by simp [HW.out]] at h; exact h)
   refine pl_act rfl (by first | exact wanted_none rfl | (go_simp; done) | rfl) (fun K hK => ?_)
   go_wp2_with fail
   refine (tof_any _ _ _ _ _ _ _ _ HY.out _ HS1.out HSB.out hc (by omega) hn (by omega) HT1.out).mono ?_
   rintro e w_ ⟨rfl, hb_⟩
   go_wp2_with fail
   refine hK _ _ (fun _ => hb_) ?_
   clear hK K
   replace HB := kp (HB.out.grow' hb_)
   replace HK1 := kp (HK1.out.grow hb_)
   replace HK2 := kp (HK2.out.grow hb_)
   clear hb_
   clear HX HSB
   have hysl := HY.out.len
   refine pl_act rfl (by first | exact wanted_none rfl | (go_simp; done) | rfl) (fun K hK => ?_)
   go_wp2_with fail
   generalize hw_ : World.alloc w_ _ = w2_
   obtain ⟨hX_, hb_, hs_⟩ := alloc_eq hw_
   generalize hg_ : w_.heap.size = g2 at hX_ hs_ ⊢
   refine hK _ _ (fun _ => hb_) ?_
   have HX2 := kp hX_
   clear hK K hw_ hX_
   replace HB := kp (HB.out.grow' hb_)
   replace HK1 := kp (HK1.out.grow hb_)
   replace HK2 := kp (HK2.out.grow hb_)
   clear hb_ hg_ hs_
   clear w_
   rename World => w_
   clear hysl
   have HSX := kp (show Sl w_ w_.heap.size 32 (some ⟨g2, 0, none⟩) 1 ys from (show Blk w_ g2 24 ys by have h := HX2.out; rw [fold_set _ ys (by rw [HY.out.len]; rfl)] at h; exact h).sl (by rw [HY.out.len]))
   clear HX2
   refine pl_act rfl (by first | rfl | (go_simp; done) | rfl) (fun K hK => ?_)
   show wpList _ _ _ [⟨some _, .call _, _, _, _, _⟩] _ _
   have hbz := Nat.le_trans HK1.out.lt (Nat.le_refl _)
   have HBZ := kp hbz
   clear hbz
   go_wp2_with (at_builtin; refine wpl_apps rfl rfl el_id HK2.out rfl HSX.out rfl HY.out.one (by omega) (by omega) HBZ.out ?_)
   intro A4 c4 w4 ho hg hA
   have hne : ∀ x, A3.map Addr.block = some x → w.heap.size + 1 ≤ x := own_from HK2.out
   have HC4 := kp (show RCell w4 w.heap.size A3 k c3 from HK1.out.grown hg (by intro hh; have := hne _ hh.symm; omega))
   have HB4 := kp (show Below w.heap.size w w4 from HB.out.grown hg HB.out.size (fun x hx => by have := hne x hx; omega))
   have HO4 := kp (show w4.ownsRow (w.heap.size + 1) 24 32 (.slice A4 (k + 1) c4) (k + 1) (idCells (ringB seed (k + 1))) by rw [ringB_succ, idCells_snoc, ← HY.out.1]; exact ho)
   clear ho hg hA hne HSX HBZ HK1 HK2 HB HS1 HT1
   go_wp2_with fail
   refine hK _ _ (fun h => by cases h) ?_
   clear hK K
   repeat ((first | refine pl_calm rfl rfl (by first | exact wanted_none rfl | (go_simp; done) | rfl) (fun w_ => by first | (go_simp; rfl) | (go_simp; done) | rfl) (fun K hK => ?_) | refine pl_skip rfl (by first | (go_simp; done) | rfl) (fun K hK => ?_) | refine pl_skipa rfl (by first | (go_simp; done) | rfl) (fun K hK => ?_)); go_simp; refine hK _ _ ?_; clear hK K)
   have hcl := HC4.out.cell
   have hfz := Blk.frozen HC4.out 0
   refine pl_act rfl (by first | rfl | (go_simp; done) | rfl) (fun K hK => ?_)
   go_wp2_with fail
   refine hK _ _ (fun h => by cases h) ?_
   clear hK K hcl hfz
   have HI := kp (show KInv w (w4.setCell ⟨w.heap.size, 0, none⟩ (.slice A4 (k + 1) c4)) A4 c4 (k + 1) seed from
    ⟨Blk.set_ HC4.out 0 _, own_kept HO4.out (grown_set w4 w.heap.size 0 _) (fun x hx hh => by have := own_from HO4.out x (by rw [hx]; rfl); cases hh; omega), HB4.out.setCell (p := ⟨w.heap.size, 0, none⟩) (Nat.le_refl _) _⟩)
   refine pl_done ?_
   go_wp2_with fail
   go_roundw
   case rel => exact ⟨k + 1, A4, c4, by omega, by go_num, HI⟩
   case measure => simp [intOf]; omega
  ·obtain rfl : k = N := by omega
   have HI := kp (show Ids wr A3 k c3 (ringB seed k) from ⟨Sl.of_own hinv.out.2.1, ringB_len _ _, ringB_all _ _, by obtain ⟨_, _, _, _, h⟩ := own_form hinv.out.2.1 (by omega); exact h⟩)
   go_wp2_with fail
   go_ret
   exact ⟨_, A3, c3, rfl, ⟨hinv.out.1, HI.out⟩, hinv.out.2.2⟩
theorem has_any {g : Nat} {A : Option Addr} {n c : Nat} {ds : List (List UInt8)} (s : Int) (w : World) (hr : RingAt w g A n c ds) :
  Calls Tryz.prog 64 #[.pointer (some ⟨g, 0, none⟩), .int .i64 s] w fun e w' => e = .returned (.bool (decide (0 ≤ s ∧ s < n))) ∧ Below w.heap.size w w' := by
 have hc := hr.cell
 clear hr
 by_cases h0 : 0 ≤ s
 ·by_cases h1 : s < n
  ·have g0 : decide (0 ≤ s) = true := by simpa using h0
   have g1 : decide (s < (n : Int)) = true := by simpa using h1
   have e : decide (0 ≤ s ∧ s < n) = true := by simp [h0, h1]
   rw [e]
   go_enter Tryz.func64, Tryz.ntmps64
   go_wp2_with fail
   go_ret
   exact ⟨by simp, Below.refl _ _⟩
  ·have g0 : decide (0 ≤ s) = true := by simpa using h0
   have g1 : decide (s < (n : Int)) = false := by simpa using h1
   have e : decide (0 ≤ s ∧ s < n) = false := by simp [h1]
   rw [e]
   go_enter Tryz.func64, Tryz.ntmps64
   go_wp2_with fail
   go_ret
   exact ⟨by simp, Below.refl _ _⟩
 ·have g0 : decide (0 ≤ s) = false := by simpa using h0
  have e : decide (0 ≤ s ∧ s < n) = false := by simp [h0]
  rw [e]
  go_enter Tryz.func64, Tryz.ntmps64
  go_wp2_with fail
  go_ret
  exact ⟨by simp, Below.refl _ _⟩
theorem has_b {b : Bool} {g : Nat} {A : Option Addr} {n c : Nat} {ds : List (List UInt8)} (s : Int) (hb : decide (0 ≤ s ∧ s < n) = b) (w : World) (hr : RingAt w g A n c ds) :
  Calls Tryz.prog 64 #[.pointer (some ⟨g, 0, none⟩), .int .i64 s] w fun e w' => e = .returned (.bool b) ∧ Below w.heap.size w w' := by
 rw [← hb]; exact has_any s w hr
set_option maxRecDepth 100000 in
set_option maxHeartbeats 1000000 in
theorem sign_yes {g : Nat} {A A2 : Option Addr} {n c n2 c2 k : Nat} {ds : List (List UInt8)} {bs d : List UInt8} {xs : List Value} (hd : ds[k]? = some d) (hx : Dig xs (tagB d bs)) (w : World) (hr : RingAt w g A n c ds) (hn : n ≤ 64) (hs2 : Sl w w.heap.size 1 A2 n2 (bs.map B)) (hc2 : n2 ≤ c2) (hn2 : n2 ≤ 1000000) (ht : Tabs w) :
  Calls Tryz.prog 49 #[.pointer (some ⟨g, 0, none⟩), .int .i64 k, .slice A2 n2 c2] w fun e w' => e = .returned (.tuple #[.agg xs.toArray, .bool true]) ∧ Below w.heap.size w w' := by
 have hk : k < n := by have := (List.getElem?_eq_some_iff.1 hd).1; rw [hr.2.2.1] at this; exact this
 obtain ⟨b, off, d', rfl, h1, h2, h3, h4⟩ := hr.2.key hk
 rw [hd] at h1; cases h1
 have HK := kp (hr.2.sl hd)
 have HRA := kp hr; have HS2 := kp hs2; have HT := kp ht; have HD := kp hx
 have HB := kp (Below.refl w.heap.size w)
 have HG := kp (Nat.le_refl w.heap.size)
 have hrid := row_id
 have HRI := kp hrid
 clear hd hr hs2 ht hx h2 h3 h4 hrid
 have e : decide ((0 : Int) ≤ k ∧ (k : Int) < n) = true := by simp; omega
 have HE := kp e
 clear e
 go_enter Tryz.func49, Tryz.ntmps49
 go_wp2_with (first | (with_reducible refine wpl_alloc (o := ⟨some 6, _, _, _, _, _⟩) rfl rfl zero_id ?_))
 intro w2_ hb2_ hb_ hsz2_
 have HX_ := kp (at_mk hb2_ len_id)
 clear hb2_ hsz2_
 replace HB := kp (HB.out.grow' hb_)
 replace HRA := kp (HRA.out.grow hb_)
 replace HS2 := kp (HS2.out.grow hb_)
 replace HT := kp (HT.out.grow hb_)
 replace HK := kp (HK.out.grow hb_)
 have HR := HX_
 clear hb_ HX_
 try clear w_
 rename World => w_
 go_wp2_with fail
 refine (has_b (k : Int) HE.out _ HRA.out).mono ?_
 rintro e w_ ⟨rfl, hb_⟩
 replace HB := kp (HB.out.grow' hb_)
 replace HRA := kp (HRA.out.grow hb_)
 replace HR := kp (HR.out.grow hb_)
 replace HS2 := kp (HS2.out.grow hb_)
 replace HT := kp (HT.out.grow hb_)
 replace HK := kp (HK.out.grow hb_)
 clear hb_
 have hc := HRA.out.cell
 go_wp2_with fail
 refine (tof_any _ _ _ _ _ _ _ _ HD.out _ HK.out HS2.out (by omega) hc2 (by omega) hn2 HT.out).mono ?_
 rintro e w_ ⟨rfl, hb_⟩
 replace HB := kp (HB.out.grow' hb_)
 replace HR := kp (HR.out.grow hb_)
 clear hb_
 clear hc
 go_wp2_with (first | (with_reducible refine wpl_storeb (o := ⟨none, .store _ _ _, _, _, _, _⟩) rfl rfl row_id HR.out.blk rfl rfl HR.out.len HD.out.len HD.out.one ?_))
 intro w2_ hb2_ hg2_ hsz2_
 replace HB := kp (put_below HB.out HG.out hg2_)
 replace HR := kp (at_mk hb2_ HD.out.len)
 clear hb2_ hg2_ hsz2_
 try clear w_
 rename World => w_
 go_wp2_with fail
 exact ret_cell2 rfl HRI.out HR.out.blk rfl HR.out.len rfl rfl ⟨rfl, HB.out⟩
set_option maxRecDepth 100000 in
set_option maxHeartbeats 2000000 in
theorem sign_no {g : Nat} {A A2 : Option Addr} {n c n2 c2 : Nat} {ds : List (List UInt8)} (s : Int) {zs : List Value} (hz : List.replicate 32 (B 0) = zs) (w : World) (hr : RingAt w g A n c ds) (hs : ¬ (0 ≤ s ∧ s < n)) :
  Calls Tryz.prog 49 #[.pointer (some ⟨g, 0, none⟩), .int .i64 s, .slice A2 n2 c2] w fun e w' => e = .returned (.tuple #[.agg zs.toArray, .bool false]) ∧ Below w.heap.size w w' := by
 have HRA := kp hr
 have HB := kp (Below.refl w.heap.size w)
 have HG := kp (Nat.le_refl w.heap.size)
 have hrid := row_id
 have HRI := kp hrid
 have HE := kp (show decide (0 ≤ s ∧ s < n) = false by simpa using hs)
 have HZ := kp hz
 have h1 : ∀ u ∈ List.replicate 32 (B 0), u.oneCell' = true := by intro u hu; rw [List.eq_of_mem_replicate hu]; rfl
 have HO := kp h1
 clear hr hs hrid hz h1
 go_enter Tryz.func49, Tryz.ntmps49
 go_wp2_with (first | (with_reducible refine wpl_alloc (o := ⟨some 6, _, _, _, _, _⟩) rfl rfl zero_id ?_))
 intro w2_ hb2_ hb_ hsz2_
 have HX_ := kp (at_mk hb2_ len_id)
 clear hb2_ hsz2_
 replace HB := kp (HB.out.grow' hb_)
 replace HRA := kp (HRA.out.grow hb_)
 have HR := HX_
 clear hb_ HX_
 try clear w_
 rename World => w_
 go_wp2_with fail
 refine (has_b s HE.out _ HRA.out).mono ?_
 rintro e w_ ⟨rfl, hb_⟩
 replace HB := kp (HB.out.grow' hb_)
 replace HRA := kp (HRA.out.grow hb_)
 replace HR := kp (HR.out.grow hb_)
 clear hb_
 go_wp2_with (first | (refine wpl_storeb (o := ⟨none, .store _ _ _, _, _, _, _⟩) (cs := List.replicate 32 (B 0)) rfl rfl row_id HR.out.blk rfl rfl HR.out.len len_id HO.out ?_))
 intro w2 hb2 hg2 hsz2
 have HX := kp (at_mk hb2 len_id)
 have HB2 := kp (put_below HB.out HG.out hg2)
 clear hb2 hg2 hsz2
 go_wp2_with fail
 refine ret_cell2 rfl HRI.out HX.out.blk rfl HX.out.len rfl rfl ⟨?_, HB2.out⟩
 rw [← HZ.out]; rfl
set_option maxRecDepth 100000 in
set_option maxHeartbeats 1000000 in
theorem ris_yes {g : Nat} {A A2 : Option Addr} {n c n2 c2 k : Nat} {ds : List (List UInt8)} {bs d t : List UInt8} {xs : List Value} (hd : ds[k]? = some d) (hx : Dig xs t) (w : World) (hr : RingAt w g A n c ds) (hn : n ≤ 64) (hs2 : Sl w w.heap.size 1 A2 n2 (bs.map B)) (hc2 : n2 ≤ c2) (hn2 : n2 ≤ 1000000) (ht : Tabs w) :
  Calls Tryz.prog 29 #[.pointer (some ⟨g, 0, none⟩), .int .i64 k, .slice A2 n2 c2, .agg xs.toArray] w fun e w' => e = .returned (.bool (decide (tagB d bs = t))) ∧ Below w.heap.size w w' := by
 have hk : k < n := by have := (List.getElem?_eq_some_iff.1 hd).1; rw [hr.2.2.1] at this; exact this
 obtain ⟨b, off, d', rfl, h1, h2, h3, h4⟩ := hr.2.key hk
 rw [hd] at h1; cases h1
 have HK := kp (hr.2.sl hd)
 have HRA := kp hr; have HS2 := kp hs2; have HT := kp ht; have HD := kp hx
 have HB := kp (Below.refl w.heap.size w)
 clear hd hr hs2 ht hx h2 h3 h4
 have e : decide ((0 : Int) ≤ k ∧ (k : Int) < n) = true := by simp; omega
 have HE := kp e
 clear e
 go_enter Tryz.func29, Tryz.ntmps29
 go_wp2_with (first | (with_reducible refine wpl_box (o := ⟨some 7, _, _, _, _, _⟩) rfl rfl rfl ?_))
 intro w2_ hb2_ hb_ hsz2_
 have HX_ := kp (at_mk hb2_ HD.out.len)
 clear hb2_ hsz2_
 replace HB := kp (HB.out.grow' hb_)
 replace HRA := kp (HRA.out.grow hb_)
 replace HS2 := kp (HS2.out.grow hb_)
 replace HT := kp (HT.out.grow hb_)
 replace HK := kp (HK.out.grow hb_)
 have HV := HX_
 clear hb_ HX_
 try clear w_
 rename World => w_
 try go_wp2_with fail
 repeat' (first | (with_reducible refine wp_plan (id := 1) Grow [0,0,3,0,0,0,0,2,0,0,0,0,2,3,0,0] (.get 0 (.get 1 (.act 2 (.get 3 (.get 4 (.get 5 (.get 6 (.get 7 (.get 8 (.get 9 (.get 10 (.get 11 (.get 12 (.act 13 (.get 14 (.get 15 .done)))))))))))))))) (by kernel_rfl) (by kernel_rfl) Grow.refl Grow.trans ?_) | go_values | go_skip | go_guarded | go_step | go_upon | go_back)
 intro w_ hd_
 have hb_ := hd_.grow
 replace HB := kp (HB.out.grow' hb_)
 replace HV := kp (HV.out.grow hb_)
 replace HRA := kp (HRA.out.grow hb_)
 replace HS2 := kp (HS2.out.grow hb_)
 replace HT := kp (HT.out.grow hb_)
 replace HK := kp (HK.out.grow hb_)
 clear hb_ hd_
 repeat ((first | refine pl_calm rfl rfl (by first | exact wanted_none rfl | (go_simp; done) | rfl) (fun w_ => by first | (go_simp; rfl) | (go_simp; done) | rfl) (fun K hK => ?_) | refine pl_skip rfl (by first | (go_simp; done) | rfl) (fun K hK => ?_) | refine pl_skipa rfl (by first | (go_simp; done) | rfl) (fun K hK => ?_)); go_simp; refine hK _ _ ?_; clear hK K)
 refine pl_act rfl (by first | exact wanted_none rfl | (go_simp; done) | rfl) (fun K hK => ?_)
 go_wp2_with fail
 refine (has_b (k : Int) HE.out _ HRA.out).mono ?_
 rintro e w_ ⟨rfl, hb_⟩
 go_wp2_with fail
 refine hK _ _ (fun _ => hb_) ?_
 clear hK K
 replace HB := kp (HB.out.grow' hb_)
 replace HV := kp (HV.out.grow hb_)
 replace HRA := kp (HRA.out.grow hb_)
 replace HS2 := kp (HS2.out.grow hb_)
 replace HT := kp (HT.out.grow hb_)
 replace HK := kp (HK.out.grow hb_)
 clear hb_
 repeat (first | (refine pl_calm rfl rfl (by first | exact wanted_none rfl | (go_simp; done) | rfl) (fun w_ => by first | (go_simp; rfl) | (go_simp; done) | rfl) (fun K hK => ?_); go_simp; refine hK _ _ ?_; clear hK K) | (refine pl_skip rfl (by first | (go_simp; done) | rfl) (fun K hK => ?_); go_simp; refine hK _ _ ?_; clear hK K) | (refine pl_skipa rfl (by first | (go_simp; done) | rfl) (fun K hK => ?_); go_simp; refine hK _ _ ?_; clear hK K) | (refine pl_load rfl rfl (by first | exact wanted_none rfl | (go_simp; done) | rfl) rfl (by first | rfl | (go_simp; rfl)) (by kernel_rfl) (by first | exact HRA.out.cell) (fun K hK => ?_); go_simp; refine hK _ _ ?_; clear hK K) | (refine pl_loadnow rfl rfl (by first | exact wanted_none rfl | (go_simp; done) | rfl) rfl (by first | rfl | (go_simp; rfl)) (by kernel_rfl) (by first | exact HRA.out.cell) (fun K hK => ?_); go_simp; refine hK _ _ ?_; clear hK K) | (refine pl_loadb rfl rfl (by first | exact wanted_none rfl | (go_simp; done) | rfl) rfl row_id HV.out.blk (by first | rfl | (go_simp; done) | rfl) HV.out.len (fun K hK => ?_); go_simp; refine hK _ _ ?_; clear hK K) | (refine pl_loadbnow rfl rfl (by first | exact wanted_none rfl | (go_simp; done) | rfl) rfl row_id HV.out.blk (by first | rfl | (go_simp; done) | rfl) HV.out.len (fun K hK => ?_); go_simp; refine hK _ _ ?_; clear hK K))
 refine pl_act rfl (by first | exact wanted_none rfl | (go_simp; done) | rfl) (fun K hK => ?_)
 go_wp2_with fail
 refine (tis_any _ _ _ _ _ _ _ _ _ HD.out _ HK.out HS2.out (by omega) hc2 (by omega) hn2 HT.out).mono ?_
 rintro e w_ ⟨rfl, hb_⟩
 go_wp2_with fail
 refine hK _ _ (fun _ => hb_) ?_
 clear hK K
 replace HB := kp (HB.out.grow' hb_)
 clear hb_
 repeat ((first | refine pl_calm rfl rfl (by first | exact wanted_none rfl | (go_simp; done) | rfl) (fun w_ => by first | (go_simp; rfl) | (go_simp; done) | rfl) (fun K hK => ?_) | refine pl_skip rfl (by first | (go_simp; done) | rfl) (fun K hK => ?_) | refine pl_skipa rfl (by first | (go_simp; done) | rfl) (fun K hK => ?_)); go_simp; refine hK _ _ ?_; clear hK K)
 refine pl_done ?_
 go_wp2_with fail
 go_ret
 exact ⟨rfl, HB.out⟩
end Go.Proofs.YtphmefhnffoafaaGreatDoor

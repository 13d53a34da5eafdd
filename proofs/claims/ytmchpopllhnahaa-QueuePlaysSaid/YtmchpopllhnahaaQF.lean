/- The contract of slices.Insert of one request: the walk. -/
import Derived.Test.YtmchpopllhnahaaQE
namespace Go.Proofs.Ytmchpopllhnahaa
open Go.RowKit
set_option linter.unusedVariables false
/-- 'append(s, make([]T, m)...)' where there is no room: a new row. -/
theorem run_app_zeros {P : Program} {w : World} {base n c m : Nat} {A : Option Addr} {e dT ty tn : TypeId} {sz bytes : Nat} {xs : List Value} {kn : IntKind} (HE : ElemT P dT e sz bytes) (htn : P.underlying tn = some (.int kn)) (h : w.ownsRow base e sz (.slice A n c) n xs)
    (h0 : 0 < m) (hg : c < n + m) (h48 : (n + m) * bytes ≤ 140737488355328) (hmx : n + m ≤ 140737488355328) (hbase : base ≤ w.heap.size) :
    ∃ zs c' w', (Builtin.append_ #[dT, tn] ty #[.slice A n c, .int .i64 (m : Int)]).run P w = .ok (.slice (some ⟨w.heap.size, 0, none⟩) (n + m) c') w' ∧ w'.ownsRow base e sz (.slice (some ⟨w.heap.size, 0, none⟩) (n + m) c') (n + m) (xs ++ zs) ∧ Grow w w' ∧ n + m ≤ c' ∧ c' ≤ 9223372036854775807 := by
  obtain ⟨i, z, hi, hz, hsz, hby, hzs, hp⟩ := HE.hi
  subst hsz hby
  have hold : (Builtin.firstCells i.size n (.slice A n c)).run P w.drew = .ok xs.toArray w.drew := by
    rcases h.2 with ⟨hv, hn0⟩ | ⟨g, cap, cur, hv, hbg, hh, hcap, hm2, hs, ht⟩
    · injection hv with h1 h2 h3
      subst h1 h3
      have : xs = [] := List.eq_nil_of_length_eq_zero (by rw [h.1, hn0]; simp)
      subst this
      simp [Builtin.firstCells]
    · injection hv with h1 h2 h3
      subst h1
      exact run_firstCells_some w.drew i.size n ⟨g, 0, none⟩ n c xs h.1 (fun j v hj => h.cells (g := g) rfl j v hj)
  have hr := Lib.run_append_grow_zeros w dT tn ty e i z .i64 kn HE.ht htn hi hz A n c xs hold m h0 hp hg (by omega) (by rw [Nat.add_mul] at h48; omega) (growslice_fits hg h48)
  have hge := grownCap_ge w (n + m) c e
  have hcm : grownCap w (n + m) c e ≤ maxLen := grownCap_le_maxLen w (n + m) c e (by unfold maxLen; omega)
  refine ⟨(Builtin.zeroCells z.cells m).toList, _, _, hr, ⟨?_, .inr ⟨w.heap.size, _, _, rfl, hbase, heap_alloc_new w.drew _, hge, hcm, ?_, ?_⟩⟩, ?_, hge, by unfold maxLen at hcm; exact hcm⟩
  · rw [List.length_append, h.1, Array.length_toList, size_zeroCells, hzs, Nat.add_mul]
  · simp only [Array.size_append, List.size_toArray, size_zeroCells, hzs, h.1, ← Nat.add_mul]
    congr 1
    omega
  · simp only [Array.toList_append, List.append_assoc]
    have hl : (xs ++ (Builtin.zeroCells z.cells m).toList).length = (n + m) * i.size := by rw [List.length_append, h.1, Array.length_toList, size_zeroCells, hzs, Nat.add_mul]
    rw [← List.append_assoc, ← hl]
    exact List.take_left
  · exact (Drawn.all (Drawn.one w)).alloc (Nat.le_refl _) _
set_option maxRecDepth 100000 in
set_option maxHeartbeats 4000000 in
theorem qins_any {base n c k vb : Nat} {A : Option Addr} {L : List (Value × Wt)} {v : Value} {p : Wt} {w : World} {M : List Nat} (h : OwnW w base A n c L) (hk : k ≤ n) (hM : ∀ p ∈ L, BV w M p.1 p.2.bs ∧ p.2.ok) (hn : n ≤ 1000) (hv : Blk w vb 29 (wtV v p)) (h1 : v.oneCell' = true)
    (hne : A.map Addr.block ≠ some vb) (hbase : base ≤ w.heap.size) :
    Calls Try.prog 33 #[.slice A n c, .int .i64 (k : Int), .slice (some ⟨vb, 0, none⟩) 1 1] w fun e w' => ∃ A' c', e = .returned (.slice A' (n + 1) c') ∧ OwnW w' base A' (n + 1) c' (L.take k ++ (v, p) :: L.drop k) ∧ w.grownBy w' (A.map Addr.block) ∧
      (A'.map Addr.block = A.map Addr.block ∨ ∃ b, A'.map Addr.block = some b ∧ w.heap.size ≤ b) := by
  have HO := Lib.hid h
  have HL := Lib.hid h.len
  have HON := Lib.hid (OwnW.one hM)
  obtain ⟨hnc, hc63⟩ := h.cap
  have HV := Lib.hid hv
  have HV1 := Lib.hid (wtV_cl p h1)
  have HB := Lib.hid hbase
  have HNE := Lib.hid hne
  have HFL := Lib.hid (show flat (L.take k ++ (v, p) :: L.drop k) = flat (L.take k) ++ (wtV v p ++ flat (L.drop k)) by rw [flat_append, flat_cons])
  have HLX := Lib.hid (show (flat (L.take k)).length = k * 4 by rw [flat_length, List.length_take, h.len, Nat.min_eq_left hk])
  have HLY := Lib.hid (show (flat (L.drop k)).length = (n - k) * 4 by rw [flat_length, List.length_drop, h.len])
  have HFD := Lib.hid (show flat L = flat (L.take k) ++ flat (L.drop k) by rw [← flat_append, List.take_append_drop])
  have HYO := Lib.hid (show ∀ u ∈ flat (L.drop k), u.oneCell' = true from fun u hu => by rw [← flat_drop] at hu; exact HON.out u (List.mem_of_mem_drop hu))
  have HVC := Lib.hid (show ∀ j u, (wtV v p)[j]? = some u → w.cell? ⟨vb, j, none⟩ = some u from fun j u hu => hv.at_ hu)
  have hvlt := hv.lt
  clear hM h1 hne hv
  have a1 : IntKind.i64.wrap ((n : Int) + 1) = (n : Int) + 1 := IntWalk.i64_in _ (by omega)
  have a6 : (k : Int) ≤ (n : Int) := by omega
  by_cases hkn : k = n
  · subst hkn
    have HE := Lib.hid (show flat (L.take k ++ (v, p) :: L.drop k) = flat L ++ wtV v p by rw [HFL.out, HFD.out, List.drop_of_length_le (by rw [HL.out]; exact Nat.le_refl _)]; simp [flat])
    clear HFL HLX HLY HFD HYO HON a6 h
    obtain ⟨xs, hxs⟩ : ∃ q, q = wtV v p := ⟨_, rfl⟩
    rw [← hxs] at HV HV1 HE HVC
    clear hxs
    have HS := Lib.hid (show Sl w w.heap.size 4 (some ⟨vb, 0, none⟩) 1 xs from ⟨HV1.out.len, fun _ => ⟨vb, 0, rfl, HV.out.lt, fun j u hu => by rw [Nat.zero_add]; exact HVC.out j u hu⟩⟩)
    have HO2 := Lib.hid (show w.ownsRow base 29 4 (.slice A k c) k (flat L) from HO.out)
    clear a1
    go_enter Try.func33, Try.ntmps33
    go_wp2_with (first | (at_builtin; refine wpl_apps rfl rfl el_wait HO2.out rfl HS.out rfl HV1.out.one (by omega) (by omega) HB.out ?_))
    all_goals
      intro A4 c4 w4 ho hg hA
      have HO4 := Lib.hid (show OwnW w4 base A4 (k + 1) c4 (L.take k ++ (v, p) :: L.drop k) by unfold OwnW; rw [HE.out]; exact ho)
      have HG := Lib.hid hg
      have HA := Lib.hid hA
      clear ho hg hA
      go_wp2_with fail
      go_ret
      exact ⟨A4, c4, rfl, HO4.out, HG.out, HA.out.imp id fun h => by
        first
          | exact ⟨_, h, Nat.le_refl _⟩
          | (obtain ⟨a, rfl, e⟩ := h; exact ⟨_, rfl, Nat.le_of_eq e.symm⟩)⟩
  · have hlt : k < n := by omega
    have a2 : ((k : Int) == (n : Int)) = false := beq_eq_false_iff_ne.2 (by omega)
    have a3 : ¬ ((k : Int) = (n : Int)) := by omega
    have a4 : k ≤ n := hk
    have a7 : ¬ (c = k) := by omega
    have a8 : ¬ (n = k) := by omega
    have a9 : IntKind.i64.wrap ((k : Int) + 1) = (k : Int) + 1 := IntWalk.i64_in _ (by omega)
    have a10 : ((k : Int) + 1).toNat = k + 1 := by omega
    have a11 : (0 : Int) ≤ (k : Int) + 1 := by omega
    have a12 : (0 : Int) ≤ (n : Int) + 1 := by omega
    have a13 : ((n : Int) + 1).toNat = n + 1 := by omega
    have a14 : (k : Int) + 1 ≤ (n : Int) + 1 := by omega
    have a15 : (k : Int) ≤ (n : Int) + 1 := by omega
    have a16 : k ≤ c := by omega
    have a17 : (k : Int) ≤ (c : Int) := by omega
    obtain ⟨g, rfl⟩ : ∃ g, A = some ⟨g, 0, none⟩ := by
      rcases h.form with ⟨_, h0, _⟩ | ⟨g, e, _⟩
      · omega
      · exact ⟨g, e⟩
    have HGW := Lib.hid (show g < w.heap.size from by rcases h.form with ⟨e, _⟩ | ⟨g', e, _, h2⟩; cases e; cases e; exact h2)
    have HGV := Lib.hid (show vb ≠ g from fun e => HNE.out (by rw [e]; rfl))
    have HT := Lib.hid (show w.ownsRow base 29 4 (.slice (some ⟨g, 0, none⟩) k c) k (flat (L.take k)) by rw [← flat_take]; exact own_take h hk)
    by_cases hroom : n + 1 ≤ c
    · have b1 : ¬ ((c : Int) < (n : Int) + 1) := by omega
      have b2 : decide ((c : Int) < (n : Int) + 1) = false := decide_eq_false b1
      have b3 : (n : Int) + 1 ≤ (c : Int) := by omega
      have b4 : ¬ (c = k + 1) := by omega
      obtain ⟨ys, hyl, hO1⟩ := own_room (i := 1) h hroom
      have hov := fun m q => over_any (o := (k + 1) * 4) (m := m) HV.out h (by omega) HGV.out q
      have HO1 := Lib.hid hO1; have HYL := Lib.hid hyl
      clear h hyl hO1
      go_enter Try.func33, Try.ntmps33
      repeat' (first | (with_reducible refine wp_tail (id := 15) 8 (by kernel_rfl) (by kernel_rfl) ?_) | go_values | go_skip | go_guarded | go_step | go_upon | go_back)
      intro w6 hd6
      simp only [List.take_succ_cons, List.take_zero, List.drop_succ_cons, List.drop_zero]
      repeat still_step
      refine wpStill_nil ?_
      obtain ⟨w7, hr7, ho7, hg7, hz7⟩ := run_copy_own (dT := 44) (sT := 44) (ty := 3) (dc := c - (k + 1)) (sc := c - k) (o := (k + 1) * 4) (dl := n - k) (sl := n + 1 - k) (k := n - k) (ad := ⟨g, k * 4, none⟩) (cs := flat (L.drop k)) el_wait (hd6.own HO1.out)
        (Nat.min_eq_right (by omega)) HLY.out (by rw [HLY.out]; omega) (fun j v hj => (hd6.cell _).trans (HO.out.from_ k j v hj)) HYO.out
      have HG7 := Lib.hid (show w.grownBy w7 (some g) by obtain ⟨q, rfl⟩ := hd6; exact grown_undrew hg7)
      have HO7 := Lib.hid ho7
      have HVC7 := Lib.hid (fun j u (hu : (wtV v p)[j]? = some u) => (World.cell?_of_block (HG7.out.block vb hvlt (fun e => HGV.out (Option.some.inj e)))).trans (HVC.out j u hu))
      obtain ⟨w8, hr8, ho8, hg8, hz8⟩ := run_copy_own (dT := 44) (sT := 44) (ty := 3) (dc := c - k) (sc := 1) (o := k * 4) (dl := n + 1 - k) (sl := 1) (k := 1) (ad := ⟨vb, 0, none⟩) (cs := wtV v p) el_wait HO7.out
        (Nat.min_eq_left (by omega)) HV1.out.len (by rw [HV1.out.len]; omega) (fun j u hu => by rw [Addr.add_lit, Nat.zero_add]; exact HVC7.out j u hu) HV1.out.one
      have HG8 := Lib.hid (grown_trans HG7.out hg8)
      have HO8 := Lib.hid (show OwnW w8 base (some ⟨g, 0, none⟩) (n + 1) c (L.take k ++ (v, p) :: L.drop k) by
        unfold OwnW
        rw [HFL.out, ← splice_fill (Z := flat L ++ ys) (by rw [HFD.out, List.append_assoc, List.take_left]) (by rw [List.length_append, HYL.out, HFD.out, List.length_append, HV1.out.len]; omega)]
        rw [HLX.out, HV1.out.len]
        have e : k * 4 + 4 = (k + 1) * 4 := by omega
        rw [e]; exact ho8)
      clear ho7 hg7 hz7 ho8 hg8 hz8 hd6 HO7 HVC7 HG7 HO1 HVC
      go_wp2_with (first | (at_builtin; refine wpl_copy_run rfl rfl rfl rfl hr7 ?_) | (at_builtin; refine wpl_copy_run rfl rfl rfl rfl hr8 ?_))
      go_ret
      exact ⟨_, _, rfl, HO8.out, HG8.out, by first | exact .inl rfl | exact .inl ⟨_, rfl, rfl⟩⟩
    · have b1 : ((c : Int) < (n : Int) + 1) := by omega
      have b2 : decide ((c : Int) < (n : Int) + 1) = true := decide_eq_true b1
      have b3 : IntKind.i64.wrap ((n : Int) + 1 - (k : Int)) = ((n + 1 - k : Nat) : Int) := by rw [IntWalk.i64_in _ (by omega)]; omega
      have b4 : RowKit.wrap64 ((n : Int) + 1 - (k : Int)) = ((n + 1 - k : Nat) : Int) := by unfold RowKit.wrap64; omega
      obtain ⟨zs, G, w5, hr5, ho5, hg5, hG, hG63⟩ := run_app_zeros (ty := 44) (tn := 3) (m := n + 1 - k) el_wait Try.underlying3 HT.out (by omega) (by omega) (by omega) (by omega) HB.out
      have e5 : k + (n + 1 - k) = n + 1 := by omega
      rw [e5] at hr5 ho5 hG
      have HO5 := Lib.hid ho5
      have HG5 := Lib.hid hg5
      have HZL := Lib.hid (show (flat (L.take k) ++ zs).length = (n + 1) * 4 from ho5.1)
      obtain ⟨nb, hnb⟩ : ∃ q, q = w.heap.size := ⟨_, rfl⟩
      rw [← hnb] at hr5 HO5
      have HNB := Lib.hid hnb
      have b5 : ¬ (G = k) := by omega
      have b6 : ¬ (G = k + 1) := by omega
      have b7 : k ≤ G := by omega
      have b8 : n + 1 ≤ G := hG
      obtain ⟨w8, hr8, ho8, hg8, hz8⟩ := run_copy_own (dT := 44) (sT := 44) (ty := 3) (dc := G - k) (sc := 1) (o := k * 4) (dl := n + 1 - k) (sl := 1) (k := 1) (ad := ⟨vb, 0, none⟩) (cs := wtV v p) el_wait HO5.out
        (Nat.min_eq_left (by omega)) HV1.out.len (by rw [HV1.out.len]; omega) (fun j u hu => by rw [Addr.add_lit, Nat.zero_add]; exact bcell HG5.out (HVC.out j u hu)) HV1.out.one
      have HO8 := Lib.hid ho8
      have HG8 := Lib.hid (show Below w.heap.size w w8 from HG5.out.grown hg8 HG5.out.size (fun q hq => by cases hq; rw [HNB.out]; exact Nat.le_refl _))
      have HSZ := Lib.hid hG63
      clear h ho5 hg5 ho8 hg8 hz8 hnb b1 e5 hG hG63
      go_enter Try.func33, Try.ntmps33
      go_wp2_with (first | (at_builtin; refine Lib.wpList_append_run _ rfl _ _ _ _ rfl _ _ rfl rfl _ _ hr5 ?_) | (at_builtin; refine wpl_copy_run rfl rfl rfl rfl hr8 ?_))
      repeat' (first | (with_reducible refine wp_tail (id := 11) 8 (by kernel_rfl) (by kernel_rfl) ?_) | go_values | go_skip | go_guarded | go_step | go_upon | go_back)
      intro w6 hd6
      simp only [List.take_succ_cons, List.take_zero, List.drop_succ_cons, List.drop_zero]
      repeat still_step
      refine wpStill_nil ?_
      obtain ⟨w9, hr9, ho9, hg9, hz9⟩ := run_copy_own (dT := 44) (sT := 44) (ty := 3) (dc := G - (k + 1)) (sc := c - k) (o := (k + 1) * 4) (dl := n - k) (sl := n - k) (k := n - k) (ad := ⟨g, k * 4, none⟩) (cs := flat (L.drop k)) el_wait (hd6.own HO8.out)
        (Nat.min_eq_right (by omega)) HLY.out (by rw [HLY.out]; omega) (fun j u hj => (hd6.cell _).trans (by have h2 := HO.out.from_ k j u hj; rw [Addr.add_lit] at h2 ⊢; exact bcell HG8.out h2)) HYO.out
      have HG9 := Lib.hid (show Below w.heap.size w w9 from (hd6.below HG8.out).grown hg9 (by rw [hd6.size]; exact HG8.out.size) (fun q hq => by cases hq; rw [HNB.out]; exact Nat.le_refl _))
      have HO9 := Lib.hid (show OwnW w9 base (some ⟨nb, 0, none⟩) (n + 1) G (L.take k ++ (v, p) :: L.drop k) by
        unfold OwnW
        rw [HFL.out, ← splice_fill2 (Z := flat (L.take k) ++ zs) (by rw [List.take_left]) (by rw [HZL.out, HLX.out, HLY.out, HV1.out.len]; omega)]
        rw [HLX.out, HV1.out.len]
        have e : k * 4 + 4 = (k + 1) * 4 := by omega
        rw [e]; exact ho9)
      clear ho9 hg9 hz9 hd6 HO8 HG8 HO5 HG5
      go_wp2_with (first | (at_builtin; refine wpl_copy_run rfl rfl rfl rfl hr9 ?_))
      go_ret
      exact ⟨_, _, rfl, HO9.out, grown_of_below HG9.out _, by first | exact .inr ⟨_, rfl, Nat.le_of_eq HNB.out.symm⟩ | exact .inr ⟨_, ⟨_, rfl, rfl⟩, Nat.le_of_eq HNB.out.symm⟩⟩
end Go.Proofs.Ytmchpopllhnahaa

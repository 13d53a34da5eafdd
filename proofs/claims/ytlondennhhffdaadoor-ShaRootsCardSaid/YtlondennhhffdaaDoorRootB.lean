/- Layer 3, the document's answer: a product of numbers in digits. -/
import Derived.Test.YtlondennhhffdaaDoorRootA
import Derived.Test.YtlondennhhffdaaDoorPlan
namespace Go.Proofs.YtlondennhhffdaaDoor
open Go.RowKit Go.Shelf
set_option linter.unusedVariables false

theorem wpl_makeU {w : World} {ops : Array Oper} {rest : List Oper} {o : Oper} {a : Act} {Q : Exit → Act → World → Prop} (hgd : o.guard = none) {l c : Operand} (ho : o.op = Op.makeSlice 97 l c)
    (base : Nat) {kl kc : IntKind} {n : Nat} (hl : a.eval l = .int kl n) (hc : a.eval c = .int kc n)
    (h63 : 8 * n ≤ 281474976710656) (hmx : n ≤ maxLen) (hbase : base ≤ w.heap.size)
    (h : ∀ w', w'.ownsRow base 68 1 (.slice (some ⟨w.heap.size, 0, none⟩) n n) n (List.replicate n (.int .u64 0)) → w.grownBy w' none → wpList Tryd.prog ops Q rest (a.put o.dst (.slice (some ⟨w.heap.size, 0, none⟩) n n)) w') : wpList Tryd.prog ops Q (o :: rest) a w := by
  obtain ⟨i, hi, hz, hsz, hby⟩ := info_parts info_u64
  refine wpList_make_full w hgd l c 97 ho base 68 i (.int .u64 0) 1 Tryd.underlying97 hi hz hsz kl kc n n n hl hc rfl rfl (by rw [hby]; exact h63) hmx hbase fun w' h1 h2 => h w' ?_ h2
  have e : (madeCells (Value.int .u64 0).cells (n * 1)).toList = List.replicate n (.int .u64 0) := by rw [Nat.mul_one]; exact toList_madeCells_one _ _
  rw [e] at h1; exact h1
def OutI (w wr : World) (g nm : Nat) (l : List Nat) : Prop := wr.ownsRow w.heap.size 68 1 (.slice (some ⟨g, 0, none⟩) nm nm) nm (l.map U) ∧ Below w.heap.size w wr
theorem OutI.grow {w wr w2 : World} {g nm : Nat} {l : List Nat} (h : OutI w wr g nm l) (k : Grow wr w2) : OutI w w2 g nm l := ⟨own_below h.1 k, h.2.grow' k⟩
theorem own_cellU {w : World} {base g n c j : Nat} {l : List Nat} (h : w.ownsRow base 68 1 (.slice (some ⟨g, 0, none⟩) n c) n (l.map U)) (hj : j < n) : w.cell? ⟨g, j, none⟩ = some (.int .u64 ((l.getD j 0 : Nat) : Int)) := by
  have h1 := World.ownsRow.cellAt h j (by omega)
  have hl : l.length = n := by have := h.1; simpa using this
  rw [h1, List.getElem?_map, List.getD_eq_getElem?_getD, List.getElem?_eq_getElem (by omega)]; rfl
theorem sl_cellU {w : World} {Bd n j : Nat} {A : Option Addr} {l : List Nat} (h : Sl w Bd 1 A n (l.map U)) (hj : j < n) : ∃ b off, A = some ⟨b, off, none⟩ ∧ b < Bd ∧ w.cell? ⟨b, off + j, none⟩ = some (.int .u64 ((l.getD j 0 : Nat) : Int)) := by
  obtain ⟨b, off, u, e, hb, hu, hc⟩ := h.at_ hj
  refine ⟨b, off, e, hb, ?_⟩
  rw [List.getElem?_map] at hu
  obtain ⟨y, hy, rfl⟩ := Option.map_eq_some_iff.1 hu
  rw [hc, List.getD_eq_getElem?_getD, hy]; rfl
theorem own_setU {w wr : World} {g nm j v : Nat} {l : List Nat} (h : OutI w wr g nm l) (hg : w.heap.size ≤ g) : OutI w (wr.setCell ⟨g, j, none⟩ (.int .u64 (v : Int))) g nm (l.set j v) := by
  obtain ⟨h1, h2⟩ := h
  refine ⟨?_, h2.setCell (p := ⟨g, j, none⟩) hg _⟩
  rw [List.map_set]
  exact (World.ownsRow.stored h1 j _).1

set_option maxRecDepth 100000 in
set_option maxHeartbeats 4000000 in
theorem times_any (A A2 : Option Addr) (n c n2 c2 : Nat) (a b : List Nat) (w : World) (ha : Sl w w.heap.size 1 A n (a.map U)) (hb : Sl w w.heap.size 1 A2 n2 (b.map U)) (hn : n ≤ 100) (hn2 : n2 ≤ 100) (sa : Small a) (sb : Small b) :
    Calls Tryd.prog 78 #[.slice A n c, .slice A2 n2 c2] w fun e w' => ∃ g, e = .returned (.slice (some ⟨g, 0, none⟩) (n + n2) (n + n2)) ∧ Sl w' w'.heap.size 1 (some ⟨g, 0, none⟩) (n + n2) ((timesB a b).map U) ∧ Below w.heap.size w w' := by
  have HA := Lib.hid ha; have HBB := Lib.hid hb
  have HLA := Lib.hid (show a.length = n by have := ha.len; simpa using this)
  have HLB := Lib.hid (show b.length = n2 by have := hb.len; simpa using this)
  have HSA := Lib.hid sa; have HSB := Lib.hid sb
  clear ha hb sa sb
  have hsum : (n : Int) + (n2 : Int) = ((n + n2 : Nat) : Int) := by simp
  obtain ⟨nm, hnm⟩ : ∃ m, m = n + n2 := ⟨_, rfl⟩
  rw [← hnm] at hsum ⊢
  have HNM := Lib.hid hnm
  have hnmb : nm ≤ 200 := by omega
  clear hnm
  have hw1 : RowKit.wrap64 (nm : Int) = (nm : Int) := wrap64_in _ (by omega)
  go_enter Tryd.func78, Tryd.ntmps78
  go_wp2_with (at_make; refine wpl_makeU rfl rfl w.heap.size rfl rfl ?_ ?_ (Nat.le_refl _) ?_)
  · omega
  · unfold maxLen; omega
  intro w1 ho hg
  have HO := Lib.hid (show OutI w w1 w.heap.size nm (outerB a b 0) from ⟨by
    have e : (outerB a b 0).map U = List.replicate nm (.int .u64 0) := by
      unfold outerB; rw [List.map_replicate, HLA.out, HLB.out, HNM.out]; rfl
    rw [e]; exact ho, (Below.refl w.heap.size w).grown hg (Nat.le_refl _) (by intro k hk; cases hk)⟩)
  clear ho hg
  obtain ⟨g, hg⟩ : ∃ g, g = w.heap.size := ⟨_, rfl⟩
  rw [← hg] at HO ⊢
  have HGE := Lib.hid (show w.heap.size ≤ g by omega)
  clear hg
  go_wp2_with fail
  go_loopw [6] (fun i wr => ∃ j : Nat, j ≤ n ∧ i = .int .i64 j ∧ Hid (OutI w wr g nm (outerB a b j))) (fun i _ => n - (intOf i).toNat)
  case atStart => exact ⟨0, by omega, rfl, HO⟩
  case round =>
    obtain ⟨j, hj, rfl, hout⟩ := hrel
    clear HO
    by_cases hlt : j < n
    · have HO := Lib.hid (show OutI w wr g nm (innerB (a.getD j 0) b j (outerB a b j) 0).1 from hout.out)
      rename World => w0
      have HAJ := Lib.hid (show a.getD j 0 < 65536 from HSA.out j)
      go_wp2_with fail
      go_loopw [7, 8] (fun cv kv wr => ∃ k cc : Nat, k ≤ n2 ∧ cc < 65536 ∧ kv = .int .i64 k ∧ cv = .int .u64 cc ∧ Hid (cc = (innerB (a.getD j 0) b j (outerB a b j) k).2) ∧ Hid (OutI w wr g nm (innerB (a.getD j 0) b j (outerB a b j) k).1)) (fun _ kv _ => n2 - (intOf kv).toNat)
      case atStart => exact ⟨0, 0, by omega, by omega, rfl, rfl, Lib.hid rfl, HO⟩
      case round =>
        obtain ⟨k, cc, hk, hcc, rfl, rfl, hce, hin⟩ := hrel
        clear HO hout
        by_cases hlk : k < n2
        · obtain ⟨ol, hol⟩ : ∃ o, o = (innerB (a.getD j 0) b j (outerB a b j) k).1 := ⟨_, rfl⟩
          have hsm := inner_small (i := j) (b := b) HAJ.out HSB.out (outer_small HSA.out HSB.out j) k
          have HIN := Lib.hid (show OutI w wr g nm ol by rw [hol]; exact hin.out)
          have HB := Lib.hid hin.out.2
          rw [← hol] at hsm
          have HOL := Lib.hid hol
          obtain ⟨jk, hjk0⟩ : ∃ m, m = j + k := ⟨_, rfl⟩
          have hjk : (j : Int) + (k : Int) = (jk : Int) := by rw [hjk0]; simp
          have hjkb : jk < nm := by have := HNM.out; omega
          obtain ⟨x, hx⟩ : ∃ x, x = ol.getD jk 0 := ⟨_, rfl⟩
          obtain ⟨ai, hai⟩ : ∃ x, x = a.getD j 0 := ⟨_, rfl⟩
          obtain ⟨bk, hbk⟩ : ∃ x, x = b.getD k 0 := ⟨_, rfl⟩
          have hxb : x < 65536 := by rw [hx]; exact hsm.1 jk
          have hab : ai < 65536 := by rw [hai]; exact HAJ.out
          have hbb : bk < 65536 := by rw [hbk]; exact HSB.out k
          have hpb := mul_le ai bk hab hbb
          have hm : (ai : Int) * (bk : Int) = ((ai * bk : Nat) : Int) := by simp
          obtain ⟨pr, hpr⟩ : ∃ p, p = ai * bk := ⟨_, rfl⟩
          rw [← hpr] at hpb hm
          obtain ⟨q, hq⟩ : ∃ q, q = x + pr := ⟨_, rfl⟩
          obtain ⟨t, ht⟩ : ∃ t, t = q + cc := ⟨_, rfl⟩
          have h1 : (x : Int) + (pr : Int) = (q : Int) := by rw [hq]; simp
          have h2 : (q : Int) + (cc : Int) = (t : Int) := by rw [ht]; simp
          have htb : t ≤ 4294967295 := by omega
          have hqb : q ≤ 4294967295 := by omega
          obtain ⟨r, hr⟩ : ∃ r, r = t % 65536 := ⟨_, rfl⟩
          obtain ⟨d, hd⟩ : ∃ r, r = t / 65536 := ⟨_, rfl⟩
          have m1 : (t : Int) % 65536 = (r : Int) := by omega
          have m2 : (t : Int) / 65536 = (d : Int) := by omega
          have hdb : d < 65536 := by omega
          have w1j : IntKind.i64.wrap (jk : Int) = (jk : Int) := IntWalk.i64_in _ (by omega)
          have w2j : RowKit.wrap64 (jk : Int) = (jk : Int) := wrap64_in _ (by omega)
          have u1 : IntKind.u64.wrap (pr : Int) = (pr : Int) := by rw [IntKind.wrap_u64]; omega
          have u2 : IntKind.u64.wrap (q : Int) = (q : Int) := by rw [IntKind.wrap_u64]; omega
          have u3 : IntKind.u64.wrap (t : Int) = (t : Int) := by rw [IntKind.wrap_u64]; omega
          have HT := Lib.hid (show t = ol.getD (j + k) 0 + a.getD j 0 * b.getD k 0 + cc by rw [ht, hq, hpr, hx, hai, hbk, hjk0])
          have HR := Lib.hid hr; have HDD := Lib.hid hd; have HJK := Lib.hid hjk0
          have HX := Lib.hid hx; have HAI := Lib.hid hai; have HBK := Lib.hid hbk
          clear hol hin hsm hx hai hbk hpr hq ht hr hd hjk0
          go_wp2_with fail
          try go_wp2_with fail
          repeat' (first | (with_reducible refine wp_plan (id := 9) Grow [0,0,0,0,0,2,0,0,0,2,0,0,0,2,0,0,0,0,0] (.get 0 (.get 1 (.get 2 (.get 3 (.get 4 (.get 5 (.get 6 (.get 7 (.get 8 (.get 9 (.get 10 (.get 11 (.get 12 (.get 13 (.get 14 (.get 15 (.get 16 (.get 17 (.get 18 .done))))))))))))))))))) (by kernel_rfl) (by kernel_rfl) Grow.refl Grow.trans ?_) | go_values | go_skip | go_guarded | go_step | go_upon | go_back)
          intro w_ hd_
          have hb_ := hd_.grow
          have HB_ := Lib.hid (HB.out.grow' hb_)
          clear HB
          have HB := HB_
          clear HB_
          have HIN_ := Lib.hid (HIN.out.grow hb_)
          clear HIN
          have HIN := HIN_
          clear HIN_
          clear hb_ hd_
          have HAW := Lib.hid (HA.out.below HB.out)
          have HBW := Lib.hid (HBB.out.below HB.out)
          have hc1 : w_.cell? ⟨g, jk, none⟩ = some (.int .u64 (x : Int)) := by rw [HX.out]; exact own_cellU HIN.out.1 hjkb
          obtain ⟨b1, o1, rfl, hb1, hc2⟩ := sl_cellU HAW.out hlt
          obtain ⟨b2, o2, rfl, hb2, hc3⟩ := sl_cellU HBW.out hlk
          rw [← HAI.out] at hc2
          rw [← HBK.out] at hc3
          clear hb1 hb2
          repeat (first | (refine pl_calm rfl rfl (by first | exact wanted_none rfl | (go_simp; done) | rfl) (fun w_ => by first | (go_simp; rfl) | (go_simp; done) | rfl) (fun K hK => ?_); go_simp; refine hK _ _ ?_; clear hK K) | (refine pl_skip rfl (by first | (go_simp; done) | rfl) (fun K hK => ?_); go_simp; refine hK _ _ ?_; clear hK K) | (refine pl_skipa rfl (by first | (go_simp; done) | rfl) (fun K hK => ?_); go_simp; refine hK _ _ ?_; clear hK K) | (refine pl_load rfl rfl (by first | exact wanted_none rfl | (go_simp; done) | rfl) rfl (by first | rfl | (go_simp; rfl)) (by kernel_rfl) (by first | exact hc1 | exact hc2 | exact hc3) (fun K hK => ?_); go_simp; refine hK _ _ ?_; clear hK K) | (refine pl_loadnow rfl rfl (by first | exact wanted_none rfl | (go_simp; done) | rfl) rfl (by first | rfl | (go_simp; rfl)) (by kernel_rfl) (by first | exact hc1 | exact hc2 | exact hc3) (fun K hK => ?_); go_simp; refine hK _ _ ?_; clear hK K))
          refine pl_done ?_
          have hfz : w_.frozen? ⟨g, jk, none⟩ = false := own_frozen HIN.out.1 jk
          clear hc2 hc3
          have HOUT := Lib.hid (show OutI w (w_.setCell ⟨g, jk, none⟩ (.int .u64 (r : Int))) g nm (innerB (a.getD j 0) b j (outerB a b j) (k + 1)).1 by
            rw [innerB_succ, ← HOL.out, ← hce.out, ← HT.out, ← HR.out, ← HJK.out]
            exact own_setU HIN.out HGE.out)
          have HCE := Lib.hid (show d = (innerB (a.getD j 0) b j (outerB a b j) (k + 1)).2 by
            rw [innerB_succ, ← HOL.out, ← hce.out, ← HT.out]; exact HDD.out)
          clear w1j w2j hm h1 h2 u1 u2 u3 hpb hqb htb hxb hab hbb HX HAI HBK HOL HT HR HDD HAW HBW HIN
          go_wp2_with fail
          go_roundw
          case rel => exact ⟨k + 1, d, by omega, hdb, by go_num, rfl, HCE, HOUT⟩
          case measure => simp [intOf]; omega
        · obtain rfl : k = n2 := by omega
          obtain ⟨ol, hol⟩ : ∃ o, o = (innerB (a.getD j 0) b j (outerB a b j) k).1 := ⟨_, rfl⟩
          have HIN := Lib.hid (show OutI w wr g nm ol by rw [hol]; exact hin.out)
          have HOL := Lib.hid hol
          obtain ⟨jk, hjk0⟩ : ∃ m, m = j + k := ⟨_, rfl⟩
          have hjk : (j : Int) + (k : Int) = (jk : Int) := by rw [hjk0]; simp
          have hjkb : jk < nm := by have := HNM.out; omega
          have HJK := Lib.hid hjk0
          clear hol hin hjk0
          have hc1 := own_cellU HIN.out.1 hjkb
          have hfz : wr.frozen? ⟨g, jk, none⟩ = false := own_frozen HIN.out.1 jk
          have HOUT := Lib.hid (show OutI w (wr.setCell ⟨g, jk, none⟩ (.int .u64 (cc : Int))) g nm (outerB a b (j + 1)) by
            rw [outerB_succ, HLB.out, ← HOL.out, ← hce.out, ← HJK.out]
            exact own_setU HIN.out HGE.out)
          go_wp2_with fail
          go_roundw
          case rel => exact ⟨j + 1, by omega, by go_num, HOUT⟩
          case measure => simp [intOf]; omega
    · obtain rfl : j = n := by omega
      have HE := Lib.hid (show timesB a b = outerB a b j by unfold timesB; rw [HLA.out])
      go_wp2_with fail
      go_ret
      exact ⟨g, rfl, by rw [HE.out]; exact Sl.of_own hout.out.1, hout.out.2⟩
end Go.Proofs.YtlondennhhffdaaDoor

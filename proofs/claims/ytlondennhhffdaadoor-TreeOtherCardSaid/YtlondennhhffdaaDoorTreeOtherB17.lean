/- The walk of seisinlaw05.TreeOther. -/
import Derived.Test.YtlondennhhffdaaDoorTreeOtherB16
/- The walk of seisinlaw05.TreeOther. -/
namespace Go.Proofs.YtlondennhhffdaaDoor
open Go.RowKit Go.Shelf
set_option linter.unusedVariables false

theorem Ids.drop1 {w : World} {A : Option Addr} {n c : Nat} {ds : List (List UInt8)} (h : Ids w A n c ds) (h1 : 1 ≤ n) : Ids w (if c = 1 then A else A.map (·.add 32)) (n - 1) (c - 1) (ds.drop 1) := by
  obtain ⟨h2, h3, h4, h5⟩ := h
  refine ⟨?_, by rw [List.length_drop, h3], fun d hd => h4 d (List.mem_of_mem_drop hd), by omega⟩
  have h6 := h2.cut (k := 1) (m := n - 1) (by omega) h5
  have e : ((idCells ds).drop (1 * 32)).take ((n - 1) * 32) = idCells (ds.drop 1) := by
    cases ds with
    | nil => simp at h3; omega
    | cons d ds =>
      have e1 : idCells (d :: ds) = d.map B ++ idCells ds := by simp [idCells]
      have hl : (idCells ds).length = (n - 1) * 32 := by
        have := h2.1
        rw [e1, List.length_append, List.length_map, h4 d (by simp)] at this
        have hh := Nat.sub_mul n 1 32
        omega
      rw [e1, List.drop_append_of_le_length (by rw [List.length_map, h4 d (by simp)]; omega), List.drop_of_length_le (by rw [List.length_map, h4 d (by simp)]; omega), List.nil_append, List.drop_succ_cons, List.drop_zero, List.take_of_length_le (by omega)]
  rw [e] at h6
  simpa using h6
theorem idCells_set {ds : List (List UInt8)} (h : ∀ d ∈ ds, d.length = 32) {i j : Nat} {d : List UInt8} (hd : ds[i]? = some d) (hj : j < 32) (y : UInt8) : (idCells ds).set (i * 32 + j) (B y) = idCells (ds.set i (d.set j y)) := by
  induction ds generalizing i with
  | nil => simp at hd
  | cons x xs ih =>
    have hx := h x (by simp)
    have e : idCells (x :: xs) = x.map B ++ idCells xs := by simp [idCells]
    cases i with
    | zero =>
      obtain rfl : x = d := by simpa using hd
      have e2 : idCells ((x :: xs).set 0 (x.set j y)) = (x.set j y).map B ++ idCells xs := by simp [idCells]
      rw [e, e2, Nat.zero_mul, Nat.zero_add, List.set_append_left _ _ (by rw [List.length_map, hx]; exact hj), List.map_set]
    | succ i =>
      have e2 : idCells ((x :: xs).set (i + 1) (d.set j y)) = x.map B ++ idCells (xs.set i (d.set j y)) := by simp [idCells]
      rw [e, e2, List.set_append_right _ _ (by rw [List.length_map, hx]; omega), List.length_map, hx, show (i + 1) * 32 + j - 32 = i * 32 + j by omega, ih (fun d hd => h d (by simp [hd])) (by simpa using hd)]
theorem ids_one {ds : List (List UInt8)} : ∀ u ∈ idCells ds, u.oneCell' = true := by
  intro u hu
  unfold idCells at hu
  obtain ⟨d, _, h⟩ := List.mem_flatMap.1 hu
  exact all_bytes d u h
theorem idCells_at {ds : List (List UInt8)} (h : ∀ d ∈ ds, d.length = 32) {i j : Nat} {d : List UInt8} {y : UInt8} (hd : ds[i]? = some d) (hy : d[j]? = some y) : (idCells ds)[i * 32 + j]? = some (B y) := by
  induction ds generalizing i with
  | nil => simp at hd
  | cons x xs ih =>
    have hx := h x (by simp)
    have hj : j < 32 := by
      have h1 := (List.getElem?_eq_some_iff.1 hy).1
      have h2 := h d (List.mem_of_getElem? hd)
      omega
    have e : idCells (x :: xs) = x.map B ++ idCells xs := by simp [idCells]
    cases i with
    | zero =>
      obtain rfl : x = d := by simpa using hd
      rw [e, Nat.zero_mul, Nat.zero_add, List.getElem?_append_left (by rw [List.length_map, hx]; exact hj), List.getElem?_map, hy]; rfl
    | succ i =>
      rw [e, List.getElem?_append_right (by rw [List.length_map, hx]; omega), List.length_map, hx, show (i + 1) * 32 + j - 32 = i * 32 + j by omega]
      exact ih (fun d hd => h d (by simp [hd])) (by simpa using hd)

def G0 (w0 w : World) : Prop := Grow w0 w
theorem G0.grow {w0 w w2 : World} (h : G0 w0 w) (k : Grow w w2) : G0 w0 w2 := Grow.trans _ _ _ h k
theorem G0.setCell {w0 w : World} {p : Addr} (h : G0 w0 w) (hp : w0.heap.size ≤ p.block) (v : Value) : Grow w0 (w.setCell p v) := Below.setCell h hp v
theorem xor_b4 (x : UInt8) : Op.intBits .xor .u8 (b8 x) 4 = pure (.int .u8 (b8 (x ^^^ 4))) := xor_b x 4
set_option maxRecDepth 100000 in
set_option maxHeartbeats 4000000 in
theorem treeOther_any (A Ab : Option Addr) (n c nb cb : Nat) (ps : List (Value × List UInt8)) (b : List UInt8) (z : Int) (tu bi : Int) (w : World) (hp : Parts w w.heap.size A n ps) (hc : n ≤ c) (hs : Sl w w.heap.size 1 Ab nb (b.map B)) (hcb : nb ≤ cb) (hz : -9223372036854775808 ≤ z) (hz2 : z ≤ 9223372036854775807)
    (ht0 : 0 ≤ tu) (ht1 : tu ≤ 255) (hb0 : 0 ≤ bi) (hb1 : bi ≤ 255) (ht : Tabs w) :
    Calls Tryd.prog 15 #[.slice A n c, .int .i64 z, .slice Ab nb cb, .int .u8 tu, .int .u8 bi] w fun e w' => e = .returned (.bool true) ∧ Below w.heap.size w w' := by
  have HT := Lib.hid ht; have HP := Lib.hid hp; have HS := Lib.hid hs
  have HB := Lib.hid (Below.refl w.heap.size w)
  have HN := Lib.hid hp.len
  have HBL := Lib.hid (show b.length = nb by have := hs.len; simpa using this)
  clear ht hp hs
  obtain ⟨xs, hxs⟩ := dig_root (ps.map Prod.snd)
  have HX := Lib.hid hxs
  clear hxs
  go_enter Tryd.func15, Tryd.ntmps15
  go_wp2_with fail
  refine (great_any _ _ _ ps _ HP.out).mono ?_
  rintro e w_ ⟨gr, rfl, hg, hb_⟩
  have HGR := Lib.hid hg
  clear hg
  have HB_ := Lib.hid (HB.out.grow' hb_)
  have HT_ := Lib.hid (HT.out.grow hb_)
  have HP_ := Lib.hid (HP.out.grow hb_)
  have HS_ := Lib.hid (HS.out.grow hb_)
  clear HB HT HP HS
  have HB := HB_
  have HT := HT_
  have HP := HP_
  have HS := HS_
  clear HB_ HT_ HP_ HS_
  clear hb_
  cases gr with
  | true =>
    go_wp2_with fail
    refine (awake5_any _ HT.out).mono ?_
    rintro e w_ ⟨rfl, hb_⟩
    have HB_ := Lib.hid (HB.out.grow' hb_)
    clear HB
    have HB := HB_
    clear HB_
    clear hb_
    go_wp2_with fail
    go_ret
    exact ⟨rfl, HB.out⟩
  | false =>
    obtain ⟨h40, hl60⟩ := HGR.out rfl
    have HL := Lib.hid (fun p hp => Nat.le_trans (hl60 p hp) (show 60 ≤ 1000000 by omega))
    clear HGR
    have HL60 := Lib.hid hl60
    clear hl60
    by_cases h1 : 1 ≤ n
    · have g2 : decide ((n : Int) < 1) = false := by simp; omega
      by_cases hnb : nb ≤ 60
      · have g3 : decide (60 < (nb : Int)) = false := by simp; omega
        obtain ⟨k, hk⟩ : ∃ k : Nat, z % (n : Int) = (k : Int) := ⟨(z % (n : Int)).toNat, by have := Int.emod_nonneg z (show (n : Int) ≠ 0 by omega); omega⟩
        have hkn : k < n := by have := Int.emod_lt_of_pos z (show 0 < (n : Int) by omega); omega
        have HK := Lib.hid hk
        clear hk
        obtain ⟨bA, oA, A2, c2, bk, rfl, hpk, hcl, hcc, hsk⟩ := HP.out.at_ hkn
        have HPK := Lib.hid hpk
        have HSK := Lib.hid hsk
        have HCK := Lib.hid (show KeepC w_ ⟨bA, oA + k, none⟩ (.slice A2 bk.length c2) from hcl)
        have hbk60 : bk.length ≤ 60 := HL60.out _ (List.mem_of_getElem? hpk)
        have hpk2 : (ps.map Prod.snd)[k]? = some bk := by rw [List.getElem?_map, hpk]; rfl
        have HPK2 := Lib.hid hpk2
        clear hpk hsk hcl hpk2
        obtain ⟨ds, hds⟩ : ∃ ds, pathI (ps.map Prod.snd) (k : Int) = ds := ⟨_, rfl⟩
        have HDS := Lib.hid hds
        have HDL := Lib.hid (show ds.length ≤ n by have h := pathI_le (ps.map Prod.snd) (k : Int); rw [hds, List.length_map, HN.out] at h; exact h)
        have HD32 := Lib.hid (show ∀ d ∈ ds, d.length = 32 by rw [← hds]; exact pathI_32 _ _)
        have HPA := Lib.hid (show climbT bk k n ds = some (rootB (ps.map Prod.snd)) by
          have h := climbT_path HPK2.out (by rw [List.length_map, HN.out]; omega)
          rw [List.length_map, HN.out, hds] at h; exact h)
        have HSH := Lib.hid (show ∀ (y : List UInt8) (q : List (List UInt8)), q.length ≠ ds.length → climbT y k n q = none from fun y q hq => by
          have h := climbT_short (y := y) (q := q) HPK2.out (by rw [List.length_map, HN.out]; omega) (by rw [hds]; exact hq)
          rw [List.length_map, HN.out] at h; exact h)
        clear hds
        obtain ⟨zs, hz1⟩ : ∃ v, Dig v (climbD b k n ds) := ⟨(climbD b k n ds).map B, rfl, climbD_len b k n ds⟩
        have HZ := Lib.hid hz1
        obtain ⟨ok, hok⟩ : ∃ ok, (climbT b k n ds).isSome = ok := ⟨_, rfl⟩
        have HOK := Lib.hid hok
        obtain ⟨d1, hd1⟩ : ∃ d, (climbD b k n ds == rootB (ps.map Prod.snd)) = d := ⟨_, rfl⟩
        have q1 := HZ.out.eql_b HX.out hd1
        have HD1 := Lib.hid hd1
        obtain ⟨sm, hsm⟩ : ∃ d, decide (b = bk) = d := ⟨_, rfl⟩
        have HSM := Lib.hid hsm
        clear hz1 hok hd1 hsm
        go_wp2_with fail
        refine (pick_any z n _ hz hz2 (by omega) (by omega)).mono ?_
        rintro e w1 ⟨rfl, hw1⟩
        rw [hw1, HK.out]
        clear hw1
        clear w1
        go_wp2_with fail
        refine (path_any n n c _ ps k ds _ (Nat.le_refl _) HDS.out HP.out hc (by omega) HL.out HT.out).mono ?_
        rintro e w_ ⟨A1, c1, rfl, ho_, hb_⟩
        have HB_ := Lib.hid (HB.out.grow' hb_)
        clear HB
        have HB := HB_
        clear HB_
        have HP_ := Lib.hid (HP.out.grow hb_)
        clear HP
        have HP := HP_
        clear HP_
        have HT_ := Lib.hid (HT.out.grow hb_)
        clear HT
        have HT := HT_
        clear HT_
        have HS_ := Lib.hid (HS.out.grow hb_)
        clear HS
        have HS := HS_
        clear HS_
        have HSK_ := Lib.hid (HSK.out.grow hb_)
        clear HSK
        have HSK := HSK_
        clear HSK_
        have HCK_ := Lib.hid (HCK.out.grow hb_)
        clear HCK
        have HCK := HCK_
        clear HCK_
        clear hb_
        have HI := Lib.hid (Ids.own ho_ rfl HD32.out (own_cap ho_))
        clear ho_
        go_wp2_with fail
        refine (rroot_any n n c _ ps xs _ (Nat.le_refl _) HX.out HP.out hc (by omega) HL.out HT.out).mono ?_
        rintro e w_ ⟨rfl, hb_⟩
        have HB_ := Lib.hid (HB.out.grow' hb_)
        clear HB
        have HB := HB_
        clear HB_
        have HP_ := Lib.hid (HP.out.grow hb_)
        clear HP
        have HP := HP_
        clear HP_
        have HT_ := Lib.hid (HT.out.grow hb_)
        clear HT
        have HT := HT_
        clear HT_
        have HS_ := Lib.hid (HS.out.grow hb_)
        clear HS
        have HS := HS_
        clear HS_
        have HSK_ := Lib.hid (HSK.out.grow hb_)
        clear HSK
        have HSK := HSK_
        clear HSK_
        have HCK_ := Lib.hid (HCK.out.grow hb_)
        clear HCK
        have HCK := HCK_
        clear HCK_
        have HI_ := Lib.hid (HI.out.grow hb_)
        clear HI
        have HI := HI_
        clear HI_
        clear hb_
        go_wp2_with (first | (with_reducible refine wpl_alloc (o := ⟨some 13, _, _, _, _, _⟩) rfl rfl zero_id ?_))
        intro w1_ hb1_ hbw1_ hsz1_
        have HB1_ := Lib.hid (at_mk hb1_ len_id)
        have HBW1_ := Lib.hid hbw1_
        have HZ1_ := Lib.hid hsz1_
        clear hb1_ hbw1_ hsz1_
        go_wp2_with (first | (with_reducible refine wpl_storeb (o := ⟨none, .store _ _ _, _, _, _, _⟩) rfl rfl row_id HB1_.out.blk rfl rfl HB1_.out.len HX.out.len HX.out.one ?_))
        intro w2_ hb2_ hg2_ hsz2_
        have hb_ := var_grow HBW1_.out HZ1_.out hg2_
        have HX_ := Lib.hid (at_mk hb2_ HX.out.len)
        clear hb2_ hg2_ hsz2_ HB1_ HBW1_ HZ1_
        have HB_ := Lib.hid (HB.out.grow' hb_)
        clear HB
        have HB := HB_
        clear HB_
        have HP_ := Lib.hid (HP.out.grow hb_)
        clear HP
        have HP := HP_
        clear HP_
        have HT_ := Lib.hid (HT.out.grow hb_)
        clear HT
        have HT := HT_
        clear HT_
        have HS_ := Lib.hid (HS.out.grow hb_)
        clear HS
        have HS := HS_
        clear HS_
        have HSK_ := Lib.hid (HSK.out.grow hb_)
        clear HSK
        have HSK := HSK_
        clear HSK_
        have HCK_ := Lib.hid (HCK.out.grow hb_)
        clear HCK
        have HCK := HCK_
        clear HCK_
        have HI_ := Lib.hid (HI.out.grow hb_)
        clear HI
        have HI := HI_
        clear HI_
        generalize hg_ : w_.heap.size = gr at HX_ ⊢
        clear hg_
        have HVR := HX_
        clear hb_ HX_
        clear w1_
        try clear w_
        rename World => w_
        have hcell := HCK.out
        unfold KeepC at hcell
        go_wp2_with fail
        clear hcell
        refine (bytes1_any HSM.out _ HS.out HSK.out (by omega)).mono ?_
        rintro e w5_ ⟨rfl, hb_⟩
        have hb_ := hb_
        clear hb_
        have HB_ := Lib.hid (HB.out.grow' hb_)
        clear HB
        have HB := HB_
        clear HB_
        have HP_ := Lib.hid (HP.out.grow hb_)
        clear HP
        have HP := HP_
        clear HP_
        have HT_ := Lib.hid (HT.out.grow hb_)
        clear HT
        have HT := HT_
        clear HT_
        have HS_ := Lib.hid (HS.out.grow hb_)
        clear HS
        have HS := HS_
        clear HS_
        have HSK_ := Lib.hid (HSK.out.grow hb_)
        clear HSK
        have HSK := HSK_
        clear HSK_
        have HCK_ := Lib.hid (HCK.out.grow hb_)
        clear HCK
        have HCK := HCK_
        clear HCK_
        have HI_ := Lib.hid (HI.out.grow hb_)
        clear HI
        have HI := HI_
        clear HI_
        have HVR_ := Lib.hid (HVR.out.grow hb_)
        clear HVR
        have HVR := HVR_
        clear HVR_
        clear hb_
        try clear w_
        rename World => w_
        go_wp2_with fail
        refine (rclimb_any _ _ _ _ _ _ b k n ds HZ.out _ HS.out hcb (by omega) HI.out (by have := HDL.out; omega)).mono ?_
        rintro e w5_ ⟨rfl, hb_⟩
        rw [HOK.out]
        have hb_ := hb_
        clear hb_
        have HB_ := Lib.hid (HB.out.grow' hb_)
        clear HB
        have HB := HB_
        clear HB_
        have HP_ := Lib.hid (HP.out.grow hb_)
        clear HP
        have HP := HP_
        clear HP_
        have HT_ := Lib.hid (HT.out.grow hb_)
        clear HT
        have HT := HT_
        clear HT_
        have HS_ := Lib.hid (HS.out.grow hb_)
        clear HS
        have HS := HS_
        clear HS_
        have HSK_ := Lib.hid (HSK.out.grow hb_)
        clear HSK
        have HSK := HSK_
        clear HSK_
        have HCK_ := Lib.hid (HCK.out.grow hb_)
        clear HCK
        have HCK := HCK_
        clear HCK_
        have HI_ := Lib.hid (HI.out.grow hb_)
        clear HI
        have HI := HI_
        clear HI_
        have HVR_ := Lib.hid (HVR.out.grow hb_)
        clear HVR
        have HVR := HVR_
        clear HVR_
        clear hb_
        try clear w_
        rename World => w_
        go_wp2_with (first | (with_reducible refine wpl_alloc (o := ⟨some 15, _, _, _, _, _⟩) rfl rfl zero_id ?_))
        intro w1_ hb1_ hbw1_ hsz1_
        have HB1_ := Lib.hid (at_mk hb1_ len_id)
        have HBW1_ := Lib.hid hbw1_
        have HZ1_ := Lib.hid hsz1_
        clear hb1_ hbw1_ hsz1_
        go_wp2_with (first | (with_reducible refine wpl_storeb (o := ⟨none, .store _ _ _, _, _, _, _⟩) rfl rfl row_id HB1_.out.blk rfl rfl HB1_.out.len HZ.out.len HZ.out.one ?_))
        intro w2_ hb2_ hg2_ hsz2_
        have hb_ := var_grow HBW1_.out HZ1_.out hg2_
        have HX_ := Lib.hid (at_mk hb2_ HZ.out.len)
        clear hb2_ hg2_ hsz2_ HB1_ HBW1_ HZ1_
        have HB_ := Lib.hid (HB.out.grow' hb_)
        clear HB
        have HB := HB_
        clear HB_
        have HP_ := Lib.hid (HP.out.grow hb_)
        clear HP
        have HP := HP_
        clear HP_
        have HT_ := Lib.hid (HT.out.grow hb_)
        clear HT
        have HT := HT_
        clear HT_
        have HS_ := Lib.hid (HS.out.grow hb_)
        clear HS
        have HS := HS_
        clear HS_
        have HSK_ := Lib.hid (HSK.out.grow hb_)
        clear HSK
        have HSK := HSK_
        clear HSK_
        have HCK_ := Lib.hid (HCK.out.grow hb_)
        clear HCK
        have HCK := HCK_
        clear HCK_
        have HI_ := Lib.hid (HI.out.grow hb_)
        clear HI
        have HI := HI_
        clear HI_
        have HVR_ := Lib.hid (HVR.out.grow hb_)
        clear HVR
        have HVR := HVR_
        clear HVR_
        generalize hg_ : w_.heap.size = g15 at HX_ ⊢
        clear hg_
        have HV15 := HX_
        clear hb_ HX_
        clear w1_
        try clear w_
        rename World => w_
        cases sm with
        | true =>
          have HRES := Lib.hid (show decide (climbT b k n ds = some (rootB (ps.map Prod.snd))) = true by
            have hbb : b = bk := by simpa using HSM.out
            rw [hbb, HPA.out]; simp)
          go_wp2_with (first | (with_reducible refine wpl_loadb (o := ⟨_, .load _ _, _, _, _, _⟩) rfl rfl row_id HVR.out.blk rfl HVR.out.len ?_) | (with_reducible refine wpl_loadw (o := ⟨_, .load _ _, _, _, _, _⟩) (by first | rfl | (go_simp; done) | fail) rfl row_id HVR.out.blk rfl HVR.out.len ?_))
          refine (tis5_any HRES.out HX.out _ HS.out hcb (by omega) HI.out (by have := HDL.out; omega) HT.out).mono ?_
          rintro e w_ ⟨rfl, hb_⟩
          have HB_ := Lib.hid (HB.out.grow' hb_)
          clear HB
          have HB := HB_
          clear HB_
          have HP_ := Lib.hid (HP.out.grow hb_)
          clear HP
          have HP := HP_
          clear HP_
          have HT_ := Lib.hid (HT.out.grow hb_)
          clear HT
          have HT := HT_
          clear HT_
          have HSK_ := Lib.hid (HSK.out.grow hb_)
          clear HSK
          have HSK := HSK_
          clear HSK_
          have HCK_ := Lib.hid (HCK.out.grow hb_)
          clear HCK
          have HCK := HCK_
          clear HCK_
          have HI_ := Lib.hid (HI.out.grow hb_)
          clear HI
          have HI := HI_
          clear HI_
          have HVR_ := Lib.hid (HVR.out.grow hb_)
          clear HVR
          have HVR := HVR_
          clear HVR_
          clear hb_
          by_cases hm1 : 1 ≤ ds.length
          · have gm : decide ((ds.length : Int) < 1) = false := by simp; omega
            have gmf := eq_false (show ¬ ((ds.length : Int) < 1) by omega)
            obtain ⟨m, hm⟩ : ∃ m, m = ds.length := ⟨_, rfl⟩
            rw [← hm] at hm1 gm gmf HI ⊢
            have HM := Lib.hid hm.symm
            have hm40 : m ≤ 40 := by have := HDL.out; omega
            clear hm
            have HN0 := Lib.hid (World.ownsRow_lit (base := w_.heap.size) (e := 26) (size := 32) w_ #[] 0 (Nat.le_refl _) (by simp [maxLen]) rfl)
            have HSA := Lib.hid (HI.out.1.alloc (Nat.le_refl _) (.cells #[] 26))
            have HONE := Lib.hid (ids_one (ds := ds))
            go_wp2_with (at_builtin; refine wpl_apps rfl rfl el_id HN0.out rfl HSA.out rfl HONE.out (by omega) (by omega) (Nat.le_of_lt (by simp)) ?_)
            intro A17 c17 w4 ho hg hA
            have hb4 : Grow w_ w4 := ((Below.refl w_.heap.size w_).alloc (Nat.le_refl _) (.cells #[] 26)).grown hg (by simp) (by intro k hk; cases hk; exact Nat.le_refl _)
            have HO := Lib.hid (show OwnI w4 w_.heap.size A17 m c17 ds by unfold OwnI; simpa using ho)
            obtain ⟨g17, rfl, hg17, hlt17, hn17⟩ := own_form HO.out (by omega)
            have HG17 := Lib.hid hg17
            have HG17B := Lib.hid (Nat.le_trans HB.out.size hg17)
            have HG0 := Lib.hid (show G0 w_ w4 from hb4)
            have HB_ := Lib.hid (HB.out.grow' hb4)
            clear ho hg hA HN0 HSA HONE hg17 hlt17 HB hb4
            have HB := HB_
            clear HB_
            have hm0 : (m : Int) ≠ 0 := by omega
            have hm0b : m ≠ 0 := by omega
            have hm0c : (m : Int) ≠ -1 := by omega
            obtain ⟨i, hi⟩ : ∃ i : Nat, tu.tmod (m : Int) = (i : Int) := ⟨(tu % (m : Int)).toNat, by rw [Int.tmod_eq_emod_of_nonneg ht0]; have := Int.emod_nonneg tu hm0; omega⟩
            have him : i < m := by have h := Int.tmod_eq_emod_of_nonneg (b := (m : Int)) ht0; have := Int.emod_lt_of_pos tu (show 0 < (m : Int) by omega); omega
            obtain ⟨j, hj⟩ : ∃ j : Nat, bi.tmod 32 = (j : Int) := ⟨(bi % 32).toNat, by rw [Int.tmod_eq_emod_of_nonneg hb0]; omega⟩
            have hj32 : j < 32 := by have h := Int.tmod_eq_emod_of_nonneg (b := (32 : Int)) hb0; omega
            have v1 : IntKind.i64.wrap tu = tu := IntWalk.i64_in _ (by omega)
            have v2 : RowKit.wrap64 tu = tu := wrap64_in _ (by omega)
            have v3 : IntKind.i64.wrap bi = bi := IntWalk.i64_in _ (by omega)
            have v4 : RowKit.wrap64 bi = bi := wrap64_in _ (by omega)
            obtain ⟨di, hdi⟩ : ∃ d, ds[i]? = some d := ⟨_, List.getElem?_eq_getElem (by rw [HM.out]; exact him)⟩
            obtain ⟨y0, hy0⟩ : ∃ y, di[j]? = some y := ⟨_, List.getElem?_eq_getElem (by rw [HD32.out _ (List.mem_of_getElem? hdi)]; exact hj32)⟩
            have HDI := Lib.hid hdi
            have HY0 := Lib.hid hy0
            clear hdi hy0
            have hj32i : (j : Int) < 32 := by omega
            go_wp2_with fail
            try go_wp2_with fail
            repeat' (first | (with_reducible refine wp_plan (id := 16) Grow [0,0,0,0,0,0,0,0,0,0,0,0,2,0,0,0,3] (.get 0 (.get 1 (.get 2 (.get 3 (.get 4 (.get 5 (.get 6 (.get 7 (.get 8 (.get 9 (.get 10 (.get 11 (.get 12 (.get 13 (.get 14 (.get 15 (.act 16 .done))))))))))))))))) (by kernel_rfl) (by kernel_rfl) Grow.refl Grow.trans ?_) | go_values | go_skip | go_guarded | go_step | go_upon | go_back)
            intro w_ hd_
            have hb_ := hd_.grow
            have HB_ := Lib.hid (HB.out.grow' hb_)
            clear HB
            have HB := HB_
            clear HB_
            have HO_ := Lib.hid (HO.out.grow hb_)
            clear HO
            have HO := HO_
            clear HO_
            have HG0_ := Lib.hid (HG0.out.grow hb_)
            clear HG0
            have HG0 := HG0_
            clear HG0_
            clear hb_ hd_
            have hcx : w_.cell? ⟨g17, i * 32 + j, none⟩ = some (.int .u8 (b8 y0)) := by
              have h := World.ownsRow.cellAt HO.out (i * 32 + j) (by omega)
              rw [h, idCells_at HD32.out HDI.out HY0.out]; rfl
            have hfz : w_.frozen? ⟨g17, i * 32 + j, none⟩ = false := own_frozen HO.out _
            have hx4 := xor_b4 y0
            repeat (first | (refine pl_calm rfl rfl (by first | exact wanted_none rfl | (go_simp; done) | rfl) (fun w_ => by first | (go_simp; rfl) | (go_simp; done) | rfl) (fun K hK => ?_); go_simp; refine hK _ _ ?_; clear hK K) | (refine pl_skip rfl (by first | (go_simp; done) | rfl) (fun K hK => ?_); go_simp; refine hK _ _ ?_; clear hK K) | (refine pl_skipa rfl (by first | (go_simp; done) | rfl) (fun K hK => ?_); go_simp; refine hK _ _ ?_; clear hK K) | (refine pl_load rfl rfl (by first | exact wanted_none rfl | (go_simp; done) | rfl) rfl (by first | rfl | (go_simp; rfl)) (by kernel_rfl) (by first | exact hcx) (fun K hK => ?_); go_simp; refine hK _ _ ?_; clear hK K) | (refine pl_loadnow rfl rfl (by first | exact wanted_none rfl | (go_simp; done) | rfl) rfl (by first | rfl | (go_simp; rfl)) (by kernel_rfl) (by first | exact hcx) (fun K hK => ?_); go_simp; refine hK _ _ ?_; clear hK K))
            refine pl_act rfl (by exact wanted_none rfl) (fun K hK => ?_)
            go_wp2_with fail
            refine hK _ _ (fun h => by cases h) ?_
            clear hK K hcx hfz hx4 hi hj v1 v2 v3 v4
            obtain ⟨ds2, hds2⟩ : ∃ d, d = ds.set i (di.set j (y0 ^^^ 4)) := ⟨_, rfl⟩
            have HL2 := Lib.hid (show ds2.length = m by rw [hds2, List.length_set]; exact HM.out)
            have HI2 := Lib.hid (show Ids (w_.setCell ⟨g17, i * 32 + j, none⟩ (.int .u8 (b8 (y0 ^^^ 4)))) (some ⟨g17, 0, none⟩) m c17 ds2 from
              ⟨by
                have h := Sl.of_own (World.ownsRow.stored HO.out (i * 32 + j) (.int .u8 (b8 (y0 ^^^ 4)))).1
                rw [hds2, ← idCells_set HD32.out HDI.out hj32]; exact h, HL2.out, (by
                intro d hd
                rw [hds2] at hd
                rcases List.mem_or_eq_of_mem_set hd with h1 | h1
                · exact HD32.out d h1
                · rw [h1, List.length_set]; exact HD32.out _ (List.mem_of_getElem? HDI.out)), hn17⟩)
            have hgx : Grow _ (w_.setCell ⟨g17, i * 32 + j, none⟩ (.int .u8 (b8 (y0 ^^^ 4)))) := HG0.out.setCell (p := ⟨g17, i * 32 + j, none⟩) HG17.out _
            have HB_ := Lib.hid (HB.out.setCell (p := ⟨g17, i * 32 + j, none⟩) HG17B.out (.int .u8 (b8 (y0 ^^^ 4))))
            clear HB HO HG0 hds2
            have HB := HB_
            clear HB_
            generalize w_.setCell ⟨g17, i * 32 + j, none⟩ (.int .u8 (b8 (y0 ^^^ 4))) = wa at HB HI2 hgx ⊢
            have HP_ := Lib.hid (HP.out.grow hgx)
            have HT_ := Lib.hid (HT.out.grow hgx)
            have HCK_ := Lib.hid (HCK.out.grow hgx)
            have HSK_ := Lib.hid (HSK.out.grow hgx)
            have HVR_ := Lib.hid (HVR.out.grow hgx)
            clear HP HT HCK HSK HVR
            have HP := HP_
            have HT := HT_
            have HCK := HCK_
            have HSK := HSK_
            have HVR := HVR_
            clear HP_ HT_ HCK_ HSK_ HVR_
            clear hgx
            try clear w_
            refine pl_done ?_
            rename World => w_
            obtain ⟨zs2, hz2⟩ : ∃ v, Dig v (climbD bk k n ds2) := ⟨(climbD bk k n ds2).map B, rfl, climbD_len bk k n ds2⟩
            have HZ2 := Lib.hid hz2
            obtain ⟨ok2, hok2⟩ : ∃ ok, (climbT bk k n ds2).isSome = ok := ⟨_, rfl⟩
            have HOK2 := Lib.hid hok2
            obtain ⟨d3, hd3⟩ : ∃ d, (climbD bk k n ds2 == rootB (ps.map Prod.snd)) = d := ⟨_, rfl⟩
            have q3 := HZ2.out.eql_b HX.out hd3
            have HD3 := Lib.hid hd3
            clear hz2 hok2 hd3
            have hcell := HCK.out
            unfold KeepC at hcell
            go_wp2_with fail
            clear hcell
            refine (rclimb_any _ _ _ _ _ _ bk k n ds2 HZ2.out _ HSK.out hcc (by omega) HI2.out (by omega)).mono ?_
            rintro e w5_ ⟨rfl, hb_⟩
            rw [HOK2.out]
            have hb_ := hb_
            clear hb_
            have HB_ := Lib.hid (HB.out.grow' hb_)
            clear HB
            have HB := HB_
            clear HB_
            have HP_ := Lib.hid (HP.out.grow hb_)
            clear HP
            have HP := HP_
            clear HP_
            have HT_ := Lib.hid (HT.out.grow hb_)
            clear HT
            have HT := HT_
            clear HT_
            have HSK_ := Lib.hid (HSK.out.grow hb_)
            clear HSK
            have HSK := HSK_
            clear HSK_
            have HCK_ := Lib.hid (HCK.out.grow hb_)
            clear HCK
            have HCK := HCK_
            clear HCK_
            have HI2_ := Lib.hid (HI2.out.grow hb_)
            clear HI2
            have HI2 := HI2_
            clear HI2_
            have HVR_ := Lib.hid (HVR.out.grow hb_)
            clear HVR
            have HVR := HVR_
            clear HVR_
            clear hb_
            try clear w_
            rename World => w_
            go_wp2_with (first | (with_reducible refine wpl_alloc (o := ⟨some 19, _, _, _, _, _⟩) rfl rfl zero_id ?_))
            intro w1_ hb1_ hbw1_ hsz1_
            have HB1_ := Lib.hid (at_mk hb1_ len_id)
            have HBW1_ := Lib.hid hbw1_
            have HZ1_ := Lib.hid hsz1_
            clear hb1_ hbw1_ hsz1_
            go_wp2_with (first | (with_reducible refine wpl_storeb (o := ⟨none, .store _ _ _, _, _, _, _⟩) rfl rfl row_id HB1_.out.blk rfl rfl HB1_.out.len HZ2.out.len HZ2.out.one ?_))
            intro w2_ hb2_ hg2_ hsz2_
            have hb_ := var_grow HBW1_.out HZ1_.out hg2_
            have HX_ := Lib.hid (at_mk hb2_ HZ2.out.len)
            clear hb2_ hg2_ hsz2_ HB1_ HBW1_ HZ1_
            have HB_ := Lib.hid (HB.out.grow' hb_)
            clear HB
            have HB := HB_
            clear HB_
            have HP_ := Lib.hid (HP.out.grow hb_)
            clear HP
            have HP := HP_
            clear HP_
            have HT_ := Lib.hid (HT.out.grow hb_)
            clear HT
            have HT := HT_
            clear HT_
            have HSK_ := Lib.hid (HSK.out.grow hb_)
            clear HSK
            have HSK := HSK_
            clear HSK_
            have HCK_ := Lib.hid (HCK.out.grow hb_)
            clear HCK
            have HCK := HCK_
            clear HCK_
            have HI2_ := Lib.hid (HI2.out.grow hb_)
            clear HI2
            have HI2 := HI2_
            clear HI2_
            have HVR_ := Lib.hid (HVR.out.grow hb_)
            clear HVR
            have HVR := HVR_
            clear HVR_
            generalize hg_ : w_.heap.size = g19 at HX_ ⊢
            clear hg_
            have HV19 := HX_
            clear hb_ HX_
            clear w1_
            try clear w_
            rename World => w_
            cases d3 with
            | true =>
              go_wp2_with (first | (with_reducible refine wpl_loadb (o := ⟨_, .load _ _, _, _, _, _⟩) rfl rfl row_id HV19.out.blk rfl HV19.out.len ?_) | (with_reducible refine wpl_loadw (o := ⟨_, .load _ _, _, _, _, _⟩) (by first | rfl | (go_simp; done) | fail) rfl row_id HV19.out.blk rfl HV19.out.len ?_) | (with_reducible refine wpl_loadb (o := ⟨_, .load _ _, _, _, _, _⟩) rfl rfl row_id HVR.out.blk rfl HVR.out.len ?_) | (with_reducible refine wpl_loadw (o := ⟨_, .load _ _, _, _, _, _⟩) (by first | rfl | (go_simp; done) | fail) rfl row_id HVR.out.blk rfl HVR.out.len ?_))
              go_wp2_with fail
              refine (awake5_any _ HT.out).mono ?_
              rintro e w_ ⟨rfl, hb_⟩
              have HB_ := Lib.hid (HB.out.grow' hb_)
              clear HB
              have HB := HB_
              clear HB_
              clear hb_
              go_wp2_with fail
              go_ret
              exact ⟨rfl, HB.out⟩
            | false =>
              go_wp2_with (first | (with_reducible refine wpl_loadb (o := ⟨_, .load _ _, _, _, _, _⟩) rfl rfl row_id HV19.out.blk rfl HV19.out.len ?_) | (with_reducible refine wpl_loadw (o := ⟨_, .load _ _, _, _, _, _⟩) (by first | rfl | (go_simp; done) | fail) rfl row_id HV19.out.blk rfl HV19.out.len ?_) | (with_reducible refine wpl_loadb (o := ⟨_, .load _ _, _, _, _, _⟩) rfl rfl row_id HVR.out.blk rfl HVR.out.len ?_) | (with_reducible refine wpl_loadw (o := ⟨_, .load _ _, _, _, _, _⟩) (by first | rfl | (go_simp; done) | fail) rfl row_id HVR.out.blk rfl HVR.out.len ?_))
              go_wp2_with fail
              have HR3 := Lib.hid (show decide (climbT bk k n ds2 = some (rootB (ps.map Prod.snd))) = false by
                by_cases h : climbT bk k n ds2 = some (rootB (ps.map Prod.snd))
                · have h2 := HD3.out; rw [climbD_of h] at h2; simp at h2
                · simpa using h)
              have HR4 := Lib.hid (show decide (climbT bk k n (ds2.drop 1) = some (rootB (ps.map Prod.snd))) = false by
                rw [HSH.out bk (ds2.drop 1) (by rw [List.length_drop, HL2.out, HM.out]; omega)]; simp)
              have HQD := Lib.hid (HI2.out.drop1 hm1)
              have HL2D := Lib.hid (show (ds2.drop 1).length ≤ 40 by rw [List.length_drop, HL2.out]; omega)
              by_cases hce : c17 = 1
              · subst hce
                obtain rfl : m = 1 := by omega
                have HQE := Lib.hid (show Ids w_ (some ⟨g17, 0, none⟩) 0 0 (ds2.drop 1) by have h := HQD.out; rw [if_pos rfl] at h; exact h)
                clear HQD
                have hcell := HCK.out
                unfold KeepC at hcell
                try go_wp2_with fail
                repeat' (first | (with_reducible refine wp_flow (id := 20) [0,0,0,6,14,0,0,64,0,511,1023,2047,4095,4095,4095,28671,61439,4095,4095,266239,4095,1052671,4194303,8388607,16777215,33554431,67108863,134217727,268435455] [0,0,0,0,0,0,0,0,0,3,0,0,0,0,0,0,0,0,0,0,0,0,3,0,0,0,3,0,0] (fun i => match i with | 9 => spV (.bool false) | 22 => spV (.bool false) | 26 => spV (.bool true) | _ => spV undef) (by kernel_rfl) (by kernel_rfl) ?_) | go_values | go_skip | go_guarded | go_step | go_upon | go_back)
                intro w_ hd_
                have hb_ := hd_.grow
                have HB_ := Lib.hid (HB.out.grow' hb_)
                clear HB
                have HB := HB_
                clear HB_
                have HT_ := Lib.hid (HT.out.grow hb_)
                clear HT
                have HT := HT_
                clear HT_
                have HP_ := Lib.hid (HP.out.grow hb_)
                clear HP
                have HP := HP_
                clear HP_
                have HSK_ := Lib.hid (HSK.out.grow hb_)
                clear HSK
                have HSK := HSK_
                clear HSK_
                have HCK_ := Lib.hid (HCK.out.grow hb_)
                clear HCK
                have HCK := HCK_
                clear HCK_
                have HI2_ := Lib.hid (HI2.out.grow hb_)
                clear HI2
                have HI2 := HI2_
                clear HI2_
                have HVR_ := Lib.hid (HVR.out.grow hb_)
                clear HVR
                have HVR := HVR_
                clear HVR_
                have HQE_ := Lib.hid (HQE.out.grow hb_)
                clear HQE
                have HQE := HQE_
                clear HQE_
                clear hb_ hd_
                show wpL _ _ _ _ _ _ _ [0,1,2,3,4,5,6,7,8,9,10,11,12,13,14,15,16,17,18,19,20,21,22,23,24,25,26,27,28] _ _
                clear hcell
                repeat (first | (refine fl_calm rfl (by decide) (by first | exact wanted_none rfl | (go_simp; done) | fail) (fun w_ _ _ => by first | (go_simp; rfl) | (go_simp; done) | rfl) (fun K hK => ?_); go_simp; refine hK _ ?_; clear hK K) | (refine fl_skip rfl (by first | (go_simp; done) | fail) (fun K hK => ?_); go_simp; refine hK _ ?_; clear hK K) | (refine fl_load rfl (by decide) (by first | exact wanted_none rfl | (go_simp; done) | fail) rfl (by first | rfl | (go_simp; rfl)) (by kernel_rfl) (by first | exact HCK.out) (fun K hK => ?_); go_simp; refine hK _ ?_; clear hK K) | (refine fl_loadb rfl (by decide) (by first | exact wanted_none rfl | (go_simp; done) | fail) rfl row_id HVR.out.blk (by first | rfl | (go_simp; done) | rfl) HVR.out.len (fun K hK => ?_); go_simp; refine hK _ ?_; clear hK K))
                refine fl_callv rfl (by kernel_rfl) rfl (by first | exact wanted_none rfl | (go_simp; done) | fail) (fun w_ => by first | (go_simp; exact ⟨rfl, rfl⟩) | (go_simp; rfl) | (go_simp; exact ⟨⟨rfl, rfl, rfl⟩, rfl⟩)) (fun w2_ hg_ hL_ => ?_) (fun K hK => ?_)
                · skip
                  replace HSK := Lib.hid (HSK.out.grow hg_)
                  replace HI2 := Lib.hid (HI2.out.grow hg_)
                  replace HT := Lib.hid (HT.out.grow hg_)
                  exact tis5_any HR3.out HX.out _ HSK.out hcc (by omega) HI2.out (by omega) HT.out
                go_simp
                refine hK _ ?_
                clear hK K
                repeat (first | (refine fl_calm rfl (by decide) (by first | exact wanted_none rfl | (go_simp; done) | fail) (fun w_ _ _ => by first | (go_simp; rfl) | (go_simp; done) | rfl) (fun K hK => ?_); go_simp; refine hK _ ?_; clear hK K) | (refine fl_skip rfl (by first | (go_simp; done) | fail) (fun K hK => ?_); go_simp; refine hK _ ?_; clear hK K) | (refine fl_load rfl (by decide) (by first | exact wanted_none rfl | (go_simp; done) | fail) rfl (by first | rfl | (go_simp; rfl)) (by kernel_rfl) (by first | exact HCK.out) (fun K hK => ?_); go_simp; refine hK _ ?_; clear hK K) | (refine fl_loadb rfl (by decide) (by first | exact wanted_none rfl | (go_simp; done) | fail) rfl row_id HVR.out.blk (by first | rfl | (go_simp; done) | rfl) HVR.out.len (fun K hK => ?_); go_simp; refine hK _ ?_; clear hK K))
                refine fl_callv rfl (by kernel_rfl) rfl (by first | exact wanted_none rfl | (go_simp; done) | fail) (fun w_ => by first | (go_simp; exact ⟨rfl, rfl⟩) | (go_simp; rfl) | (go_simp; exact ⟨⟨rfl, rfl, rfl⟩, rfl⟩)) (fun w2_ hg_ hL_ => ?_) (fun K hK => ?_)
                · skip
                  replace HSK := Lib.hid (HSK.out.grow hg_)
                  replace HQE := Lib.hid (HQE.out.grow hg_)
                  replace HT := Lib.hid (HT.out.grow hg_)
                  exact tis5_any HR4.out HX.out _ HSK.out hcc (by omega) HQE.out (by omega) HT.out
                go_simp
                refine hK _ ?_
                clear hK K
                repeat (first | (refine fl_calm rfl (by decide) (by first | exact wanted_none rfl | (go_simp; done) | fail) (fun w_ _ _ => by first | (go_simp; rfl) | (go_simp; done) | rfl) (fun K hK => ?_); go_simp; refine hK _ ?_; clear hK K) | (refine fl_skip rfl (by first | (go_simp; done) | fail) (fun K hK => ?_); go_simp; refine hK _ ?_; clear hK K) | (refine fl_load rfl (by decide) (by first | exact wanted_none rfl | (go_simp; done) | fail) rfl (by first | rfl | (go_simp; rfl)) (by kernel_rfl) (by first | exact HCK.out) (fun K hK => ?_); go_simp; refine hK _ ?_; clear hK K) | (refine fl_loadb rfl (by decide) (by first | exact wanted_none rfl | (go_simp; done) | fail) rfl row_id HVR.out.blk (by first | rfl | (go_simp; done) | rfl) HVR.out.len (fun K hK => ?_); go_simp; refine hK _ ?_; clear hK K))
                refine fl_callv rfl (by kernel_rfl) rfl (by first | exact wanted_none rfl | (go_simp; done) | fail) (fun w_ => by first | (go_simp; exact ⟨rfl, rfl⟩) | (go_simp; rfl) | (go_simp; exact ⟨⟨rfl, rfl, rfl⟩, rfl⟩)) (fun w2_ hg_ hL_ => ?_) (fun K hK => ?_)
                · skip
                  replace HT := Lib.hid (HT.out.grow hg_)
                  exact awake5_any _ HT.out
                go_simp
                refine hK _ ?_
                clear hK K
                repeat (first | (refine fl_calm rfl (by decide) (by first | exact wanted_none rfl | (go_simp; done) | fail) (fun w_ _ _ => by first | (go_simp; rfl) | (go_simp; done) | rfl) (fun K hK => ?_); go_simp; refine hK _ ?_; clear hK K) | (refine fl_skip rfl (by first | (go_simp; done) | fail) (fun K hK => ?_); go_simp; refine hK _ ?_; clear hK K))
                refine fl_done ?_
                intro w2_ hg_ hL_
                replace HB := Lib.hid (HB.out.grow' hg_)
                clear hg_ hL_
                try clear w_
                rename World => w_
                go_wp2_with fail
                go_ret
                exact ⟨rfl, HB.out⟩
              · have HQE := Lib.hid (show Ids w_ (some ⟨g17, 32, none⟩) (m - 1) (c17 - 1) (ds2.drop 1) by have h := HQD.out; rw [if_neg hce] at h; exact h)
                have hceq := eq_false hce
                have hcq : (c17 == 1) = false := by simpa using hce
                clear HQD
                have hcell := HCK.out
                unfold KeepC at hcell
                try go_wp2_with fail
                repeat' (first | (with_reducible refine wp_flow (id := 20) [0,0,0,6,14,0,0,64,0,511,1023,2047,4095,4095,4095,28671,61439,4095,4095,266239,4095,1052671,4194303,8388607,16777215,33554431,67108863,134217727,268435455] [0,0,0,0,0,0,0,0,0,3,0,0,0,0,0,0,0,0,0,0,0,0,3,0,0,0,3,0,0] (fun i => match i with | 9 => spV (.bool false) | 22 => spV (.bool false) | 26 => spV (.bool true) | _ => spV undef) (by kernel_rfl) (by kernel_rfl) ?_) | go_values | go_skip | go_guarded | go_step | go_upon | go_back)
                intro w_ hd_
                have hb_ := hd_.grow
                have HB_ := Lib.hid (HB.out.grow' hb_)
                clear HB
                have HB := HB_
                clear HB_
                have HT_ := Lib.hid (HT.out.grow hb_)
                clear HT
                have HT := HT_
                clear HT_
                have HP_ := Lib.hid (HP.out.grow hb_)
                clear HP
                have HP := HP_
                clear HP_
                have HSK_ := Lib.hid (HSK.out.grow hb_)
                clear HSK
                have HSK := HSK_
                clear HSK_
                have HCK_ := Lib.hid (HCK.out.grow hb_)
                clear HCK
                have HCK := HCK_
                clear HCK_
                have HI2_ := Lib.hid (HI2.out.grow hb_)
                clear HI2
                have HI2 := HI2_
                clear HI2_
                have HVR_ := Lib.hid (HVR.out.grow hb_)
                clear HVR
                have HVR := HVR_
                clear HVR_
                have HQE_ := Lib.hid (HQE.out.grow hb_)
                clear HQE
                have HQE := HQE_
                clear HQE_
                clear hb_ hd_
                show wpL _ _ _ _ _ _ _ [0,1,2,3,4,5,6,7,8,9,10,11,12,13,14,15,16,17,18,19,20,21,22,23,24,25,26,27,28] _ _
                clear hcell
                repeat (first | (refine fl_calm rfl (by decide) (by first | exact wanted_none rfl | (go_simp; done) | fail) (fun w_ _ _ => by first | (go_simp; rfl) | (go_simp; done) | rfl) (fun K hK => ?_); go_simp; refine hK _ ?_; clear hK K) | (refine fl_skip rfl (by first | (go_simp; done) | fail) (fun K hK => ?_); go_simp; refine hK _ ?_; clear hK K) | (refine fl_load rfl (by decide) (by first | exact wanted_none rfl | (go_simp; done) | fail) rfl (by first | rfl | (go_simp; rfl)) (by kernel_rfl) (by first | exact HCK.out) (fun K hK => ?_); go_simp; refine hK _ ?_; clear hK K) | (refine fl_loadb rfl (by decide) (by first | exact wanted_none rfl | (go_simp; done) | fail) rfl row_id HVR.out.blk (by first | rfl | (go_simp; done) | rfl) HVR.out.len (fun K hK => ?_); go_simp; refine hK _ ?_; clear hK K))
                refine fl_callv rfl (by kernel_rfl) rfl (by first | exact wanted_none rfl | (go_simp; done) | fail) (fun w_ => by first | (go_simp; exact ⟨rfl, rfl⟩) | (go_simp; rfl) | (go_simp; exact ⟨⟨rfl, rfl, rfl⟩, rfl⟩)) (fun w2_ hg_ hL_ => ?_) (fun K hK => ?_)
                · skip
                  replace HSK := Lib.hid (HSK.out.grow hg_)
                  replace HI2 := Lib.hid (HI2.out.grow hg_)
                  replace HT := Lib.hid (HT.out.grow hg_)
                  exact tis5_any HR3.out HX.out _ HSK.out hcc (by omega) HI2.out (by omega) HT.out
                go_simp
                refine hK _ ?_
                clear hK K
                repeat (first | (refine fl_calm rfl (by decide) (by first | exact wanted_none rfl | (go_simp; done) | fail) (fun w_ _ _ => by first | (go_simp; rfl) | (go_simp; done) | rfl) (fun K hK => ?_); go_simp; refine hK _ ?_; clear hK K) | (refine fl_skip rfl (by first | (go_simp; done) | fail) (fun K hK => ?_); go_simp; refine hK _ ?_; clear hK K) | (refine fl_load rfl (by decide) (by first | exact wanted_none rfl | (go_simp; done) | fail) rfl (by first | rfl | (go_simp; rfl)) (by kernel_rfl) (by first | exact HCK.out) (fun K hK => ?_); go_simp; refine hK _ ?_; clear hK K) | (refine fl_loadb rfl (by decide) (by first | exact wanted_none rfl | (go_simp; done) | fail) rfl row_id HVR.out.blk (by first | rfl | (go_simp; done) | rfl) HVR.out.len (fun K hK => ?_); go_simp; refine hK _ ?_; clear hK K))
                refine fl_calm rfl (by decide) (v := .slice (some ⟨g17, 32, none⟩) (m - 1) (c17 - 1)) (by first | exact wanted_none rfl | (go_simp; done) | fail) (fun w_ _ _ => ?_) (fun K hK => ?_)
                · go_simp
                go_simp
                refine hK _ ?_
                clear hK K
                repeat (first | (refine fl_calm rfl (by decide) (by first | exact wanted_none rfl | (go_simp; done) | fail) (fun w_ _ _ => by first | (go_simp; rfl) | (go_simp; done) | rfl) (fun K hK => ?_); go_simp; refine hK _ ?_; clear hK K) | (refine fl_skip rfl (by first | (go_simp; done) | fail) (fun K hK => ?_); go_simp; refine hK _ ?_; clear hK K) | (refine fl_load rfl (by decide) (by first | exact wanted_none rfl | (go_simp; done) | fail) rfl (by first | rfl | (go_simp; rfl)) (by kernel_rfl) (by first | exact HCK.out) (fun K hK => ?_); go_simp; refine hK _ ?_; clear hK K) | (refine fl_loadb rfl (by decide) (by first | exact wanted_none rfl | (go_simp; done) | fail) rfl row_id HVR.out.blk (by first | rfl | (go_simp; done) | rfl) HVR.out.len (fun K hK => ?_); go_simp; refine hK _ ?_; clear hK K))
                refine fl_callv rfl (by kernel_rfl) rfl (by first | exact wanted_none rfl | (go_simp; done) | fail) (fun w_ => by first | (go_simp; exact ⟨rfl, rfl⟩) | (go_simp; rfl) | (go_simp; exact ⟨⟨rfl, rfl, rfl⟩, rfl⟩)) (fun w2_ hg_ hL_ => ?_) (fun K hK => ?_)
                · skip
                  replace HSK := Lib.hid (HSK.out.grow hg_)
                  replace HQE := Lib.hid (HQE.out.grow hg_)
                  replace HT := Lib.hid (HT.out.grow hg_)
                  exact tis5_any HR4.out HX.out _ HSK.out hcc (by omega) HQE.out (by omega) HT.out
                go_simp
                refine hK _ ?_
                clear hK K
                repeat (first | (refine fl_calm rfl (by decide) (by first | exact wanted_none rfl | (go_simp; done) | fail) (fun w_ _ _ => by first | (go_simp; rfl) | (go_simp; done) | rfl) (fun K hK => ?_); go_simp; refine hK _ ?_; clear hK K) | (refine fl_skip rfl (by first | (go_simp; done) | fail) (fun K hK => ?_); go_simp; refine hK _ ?_; clear hK K) | (refine fl_load rfl (by decide) (by first | exact wanted_none rfl | (go_simp; done) | fail) rfl (by first | rfl | (go_simp; rfl)) (by kernel_rfl) (by first | exact HCK.out) (fun K hK => ?_); go_simp; refine hK _ ?_; clear hK K) | (refine fl_loadb rfl (by decide) (by first | exact wanted_none rfl | (go_simp; done) | fail) rfl row_id HVR.out.blk (by first | rfl | (go_simp; done) | rfl) HVR.out.len (fun K hK => ?_); go_simp; refine hK _ ?_; clear hK K))
                refine fl_callv rfl (by kernel_rfl) rfl (by first | exact wanted_none rfl | (go_simp; done) | fail) (fun w_ => by first | (go_simp; exact ⟨rfl, rfl⟩) | (go_simp; rfl) | (go_simp; exact ⟨⟨rfl, rfl, rfl⟩, rfl⟩)) (fun w2_ hg_ hL_ => ?_) (fun K hK => ?_)
                · skip
                  replace HT := Lib.hid (HT.out.grow hg_)
                  exact awake5_any _ HT.out
                go_simp
                refine hK _ ?_
                clear hK K
                repeat (first | (refine fl_calm rfl (by decide) (by first | exact wanted_none rfl | (go_simp; done) | fail) (fun w_ _ _ => by first | (go_simp; rfl) | (go_simp; done) | rfl) (fun K hK => ?_); go_simp; refine hK _ ?_; clear hK K) | (refine fl_skip rfl (by first | (go_simp; done) | fail) (fun K hK => ?_); go_simp; refine hK _ ?_; clear hK K))
                refine fl_done ?_
                intro w2_ hg_ hL_
                replace HB := Lib.hid (HB.out.grow' hg_)
                clear hg_ hL_
                try clear w_
                rename World => w_
                go_wp2_with fail
                go_ret
                exact ⟨rfl, HB.out⟩
          · have gm : decide ((ds.length : Int) < 1) = true := by simp; omega
            have hm0 : ds.length = 0 := by omega
            go_wp2_with fail
            refine (awake5_any _ HT.out).mono ?_
            rintro e w_ ⟨rfl, hb_⟩
            have HB_ := Lib.hid (HB.out.grow' hb_)
            clear HB
            have HB := HB_
            clear HB_
            clear hb_
            go_wp2_with fail
            go_ret
            exact ⟨rfl, HB.out⟩
        | false =>
          have HRES := Lib.hid (show d1 = false → decide (climbT b k n ds = some (rootB (ps.map Prod.snd))) = false by
            intro hd0
            by_cases h : climbT b k n ds = some (rootB (ps.map Prod.snd))
            · have h2 := HD1.out; rw [climbD_of h, hd0] at h2; simp at h2
            · simpa using h)
          cases d1 with
          | true =>
            go_wp2_with (first | (with_reducible refine wpl_loadb (o := ⟨_, .load _ _, _, _, _, _⟩) rfl rfl row_id HV15.out.blk rfl HV15.out.len ?_) | (with_reducible refine wpl_loadw (o := ⟨_, .load _ _, _, _, _, _⟩) (by first | rfl | (go_simp; done) | fail) rfl row_id HV15.out.blk rfl HV15.out.len ?_) | (with_reducible refine wpl_loadb (o := ⟨_, .load _ _, _, _, _, _⟩) rfl rfl row_id HVR.out.blk rfl HVR.out.len ?_) | (with_reducible refine wpl_loadw (o := ⟨_, .load _ _, _, _, _, _⟩) (by first | rfl | (go_simp; done) | fail) rfl row_id HVR.out.blk rfl HVR.out.len ?_))
            go_wp2_with fail
            refine (awake5_any _ HT.out).mono ?_
            rintro e w_ ⟨rfl, hb_⟩
            have HB_ := Lib.hid (HB.out.grow' hb_)
            clear HB
            have HB := HB_
            clear HB_
            clear hb_
            go_wp2_with fail
            go_ret
            exact ⟨rfl, HB.out⟩
          | false =>
            go_wp2_with (first | (with_reducible refine wpl_loadb (o := ⟨_, .load _ _, _, _, _, _⟩) rfl rfl row_id HV15.out.blk rfl HV15.out.len ?_) | (with_reducible refine wpl_loadw (o := ⟨_, .load _ _, _, _, _, _⟩) (by first | rfl | (go_simp; done) | fail) rfl row_id HV15.out.blk rfl HV15.out.len ?_) | (with_reducible refine wpl_loadb (o := ⟨_, .load _ _, _, _, _, _⟩) rfl rfl row_id HVR.out.blk rfl HVR.out.len ?_) | (with_reducible refine wpl_loadw (o := ⟨_, .load _ _, _, _, _, _⟩) (by first | rfl | (go_simp; done) | fail) rfl row_id HVR.out.blk rfl HVR.out.len ?_))
            refine (tis5_any (HRES.out (by first | trivial | rfl)) HX.out _ HS.out hcb (by omega) HI.out (by have := HDL.out; omega) HT.out).mono ?_
            rintro e w_ ⟨rfl, hb_⟩
            have HB_ := Lib.hid (HB.out.grow' hb_)
            clear HB
            have HB := HB_
            clear HB_
            have HP_ := Lib.hid (HP.out.grow hb_)
            clear HP
            have HP := HP_
            clear HP_
            have HT_ := Lib.hid (HT.out.grow hb_)
            clear HT
            have HT := HT_
            clear HT_
            have HSK_ := Lib.hid (HSK.out.grow hb_)
            clear HSK
            have HSK := HSK_
            clear HSK_
            have HCK_ := Lib.hid (HCK.out.grow hb_)
            clear HCK
            have HCK := HCK_
            clear HCK_
            have HI_ := Lib.hid (HI.out.grow hb_)
            clear HI
            have HI := HI_
            clear HI_
            have HVR_ := Lib.hid (HVR.out.grow hb_)
            clear HVR
            have HVR := HVR_
            clear HVR_
            clear hb_
            by_cases hm1 : 1 ≤ ds.length
            · have gm : decide ((ds.length : Int) < 1) = false := by simp; omega
              have gmf := eq_false (show ¬ ((ds.length : Int) < 1) by omega)
              obtain ⟨m, hm⟩ : ∃ m, m = ds.length := ⟨_, rfl⟩
              rw [← hm] at hm1 gm gmf HI ⊢
              have HM := Lib.hid hm.symm
              have hm40 : m ≤ 40 := by have := HDL.out; omega
              clear hm
              have HN0 := Lib.hid (World.ownsRow_lit (base := w_.heap.size) (e := 26) (size := 32) w_ #[] 0 (Nat.le_refl _) (by simp [maxLen]) rfl)
              have HSA := Lib.hid (HI.out.1.alloc (Nat.le_refl _) (.cells #[] 26))
              have HONE := Lib.hid (ids_one (ds := ds))
              go_wp2_with (at_builtin; refine wpl_apps rfl rfl el_id HN0.out rfl HSA.out rfl HONE.out (by omega) (by omega) (Nat.le_of_lt (by simp)) ?_)
              intro A17 c17 w4 ho hg hA
              have hb4 : Grow w_ w4 := ((Below.refl w_.heap.size w_).alloc (Nat.le_refl _) (.cells #[] 26)).grown hg (by simp) (by intro k hk; cases hk; exact Nat.le_refl _)
              have HO := Lib.hid (show OwnI w4 w_.heap.size A17 m c17 ds by unfold OwnI; simpa using ho)
              obtain ⟨g17, rfl, hg17, hlt17, hn17⟩ := own_form HO.out (by omega)
              have HG17 := Lib.hid hg17
              have HG17B := Lib.hid (Nat.le_trans HB.out.size hg17)
              have HG0 := Lib.hid (show G0 w_ w4 from hb4)
              have HB_ := Lib.hid (HB.out.grow' hb4)
              clear ho hg hA HN0 HSA HONE hg17 hlt17 HB hb4
              have HB := HB_
              clear HB_
              have hm0 : (m : Int) ≠ 0 := by omega
              have hm0b : m ≠ 0 := by omega
              have hm0c : (m : Int) ≠ -1 := by omega
              obtain ⟨i, hi⟩ : ∃ i : Nat, tu.tmod (m : Int) = (i : Int) := ⟨(tu % (m : Int)).toNat, by rw [Int.tmod_eq_emod_of_nonneg ht0]; have := Int.emod_nonneg tu hm0; omega⟩
              have him : i < m := by have h := Int.tmod_eq_emod_of_nonneg (b := (m : Int)) ht0; have := Int.emod_lt_of_pos tu (show 0 < (m : Int) by omega); omega
              obtain ⟨j, hj⟩ : ∃ j : Nat, bi.tmod 32 = (j : Int) := ⟨(bi % 32).toNat, by rw [Int.tmod_eq_emod_of_nonneg hb0]; omega⟩
              have hj32 : j < 32 := by have h := Int.tmod_eq_emod_of_nonneg (b := (32 : Int)) hb0; omega
              have v1 : IntKind.i64.wrap tu = tu := IntWalk.i64_in _ (by omega)
              have v2 : RowKit.wrap64 tu = tu := wrap64_in _ (by omega)
              have v3 : IntKind.i64.wrap bi = bi := IntWalk.i64_in _ (by omega)
              have v4 : RowKit.wrap64 bi = bi := wrap64_in _ (by omega)
              obtain ⟨di, hdi⟩ : ∃ d, ds[i]? = some d := ⟨_, List.getElem?_eq_getElem (by rw [HM.out]; exact him)⟩
              obtain ⟨y0, hy0⟩ : ∃ y, di[j]? = some y := ⟨_, List.getElem?_eq_getElem (by rw [HD32.out _ (List.mem_of_getElem? hdi)]; exact hj32)⟩
              have HDI := Lib.hid hdi
              have HY0 := Lib.hid hy0
              clear hdi hy0
              have hj32i : (j : Int) < 32 := by omega
              go_wp2_with fail
              try go_wp2_with fail
              repeat' (first | (with_reducible refine wp_plan (id := 16) Grow [0,0,0,0,0,0,0,0,0,0,0,0,2,0,0,0,3] (.get 0 (.get 1 (.get 2 (.get 3 (.get 4 (.get 5 (.get 6 (.get 7 (.get 8 (.get 9 (.get 10 (.get 11 (.get 12 (.get 13 (.get 14 (.get 15 (.act 16 .done))))))))))))))))) (by kernel_rfl) (by kernel_rfl) Grow.refl Grow.trans ?_) | go_values | go_skip | go_guarded | go_step | go_upon | go_back)
              intro w_ hd_
              have hb_ := hd_.grow
              have HB_ := Lib.hid (HB.out.grow' hb_)
              clear HB
              have HB := HB_
              clear HB_
              have HO_ := Lib.hid (HO.out.grow hb_)
              clear HO
              have HO := HO_
              clear HO_
              have HG0_ := Lib.hid (HG0.out.grow hb_)
              clear HG0
              have HG0 := HG0_
              clear HG0_
              clear hb_ hd_
              have hcx : w_.cell? ⟨g17, i * 32 + j, none⟩ = some (.int .u8 (b8 y0)) := by
                have h := World.ownsRow.cellAt HO.out (i * 32 + j) (by omega)
                rw [h, idCells_at HD32.out HDI.out HY0.out]; rfl
              have hfz : w_.frozen? ⟨g17, i * 32 + j, none⟩ = false := own_frozen HO.out _
              have hx4 := xor_b4 y0
              repeat (first | (refine pl_calm rfl rfl (by first | exact wanted_none rfl | (go_simp; done) | rfl) (fun w_ => by first | (go_simp; rfl) | (go_simp; done) | rfl) (fun K hK => ?_); go_simp; refine hK _ _ ?_; clear hK K) | (refine pl_skip rfl (by first | (go_simp; done) | rfl) (fun K hK => ?_); go_simp; refine hK _ _ ?_; clear hK K) | (refine pl_skipa rfl (by first | (go_simp; done) | rfl) (fun K hK => ?_); go_simp; refine hK _ _ ?_; clear hK K) | (refine pl_load rfl rfl (by first | exact wanted_none rfl | (go_simp; done) | rfl) rfl (by first | rfl | (go_simp; rfl)) (by kernel_rfl) (by first | exact hcx) (fun K hK => ?_); go_simp; refine hK _ _ ?_; clear hK K) | (refine pl_loadnow rfl rfl (by first | exact wanted_none rfl | (go_simp; done) | rfl) rfl (by first | rfl | (go_simp; rfl)) (by kernel_rfl) (by first | exact hcx) (fun K hK => ?_); go_simp; refine hK _ _ ?_; clear hK K))
              refine pl_act rfl (by exact wanted_none rfl) (fun K hK => ?_)
              go_wp2_with fail
              refine hK _ _ (fun h => by cases h) ?_
              clear hK K hcx hfz hx4 hi hj v1 v2 v3 v4
              obtain ⟨ds2, hds2⟩ : ∃ d, d = ds.set i (di.set j (y0 ^^^ 4)) := ⟨_, rfl⟩
              have HL2 := Lib.hid (show ds2.length = m by rw [hds2, List.length_set]; exact HM.out)
              have HI2 := Lib.hid (show Ids (w_.setCell ⟨g17, i * 32 + j, none⟩ (.int .u8 (b8 (y0 ^^^ 4)))) (some ⟨g17, 0, none⟩) m c17 ds2 from
                ⟨by
                  have h := Sl.of_own (World.ownsRow.stored HO.out (i * 32 + j) (.int .u8 (b8 (y0 ^^^ 4)))).1
                  rw [hds2, ← idCells_set HD32.out HDI.out hj32]; exact h, HL2.out, (by
                  intro d hd
                  rw [hds2] at hd
                  rcases List.mem_or_eq_of_mem_set hd with h1 | h1
                  · exact HD32.out d h1
                  · rw [h1, List.length_set]; exact HD32.out _ (List.mem_of_getElem? HDI.out)), hn17⟩)
              have hgx : Grow _ (w_.setCell ⟨g17, i * 32 + j, none⟩ (.int .u8 (b8 (y0 ^^^ 4)))) := HG0.out.setCell (p := ⟨g17, i * 32 + j, none⟩) HG17.out _
              have HB_ := Lib.hid (HB.out.setCell (p := ⟨g17, i * 32 + j, none⟩) HG17B.out (.int .u8 (b8 (y0 ^^^ 4))))
              clear HB HO HG0 hds2
              have HB := HB_
              clear HB_
              generalize w_.setCell ⟨g17, i * 32 + j, none⟩ (.int .u8 (b8 (y0 ^^^ 4))) = wa at HB HI2 hgx ⊢
              have HP_ := Lib.hid (HP.out.grow hgx)
              have HT_ := Lib.hid (HT.out.grow hgx)
              have HCK_ := Lib.hid (HCK.out.grow hgx)
              have HSK_ := Lib.hid (HSK.out.grow hgx)
              have HVR_ := Lib.hid (HVR.out.grow hgx)
              clear HP HT HCK HSK HVR
              have HP := HP_
              have HT := HT_
              have HCK := HCK_
              have HSK := HSK_
              have HVR := HVR_
              clear HP_ HT_ HCK_ HSK_ HVR_
              clear hgx
              try clear w_
              refine pl_done ?_
              rename World => w_
              obtain ⟨zs2, hz2⟩ : ∃ v, Dig v (climbD bk k n ds2) := ⟨(climbD bk k n ds2).map B, rfl, climbD_len bk k n ds2⟩
              have HZ2 := Lib.hid hz2
              obtain ⟨ok2, hok2⟩ : ∃ ok, (climbT bk k n ds2).isSome = ok := ⟨_, rfl⟩
              have HOK2 := Lib.hid hok2
              obtain ⟨d3, hd3⟩ : ∃ d, (climbD bk k n ds2 == rootB (ps.map Prod.snd)) = d := ⟨_, rfl⟩
              have q3 := HZ2.out.eql_b HX.out hd3
              have HD3 := Lib.hid hd3
              clear hz2 hok2 hd3
              have hcell := HCK.out
              unfold KeepC at hcell
              go_wp2_with fail
              clear hcell
              refine (rclimb_any _ _ _ _ _ _ bk k n ds2 HZ2.out _ HSK.out hcc (by omega) HI2.out (by omega)).mono ?_
              rintro e w5_ ⟨rfl, hb_⟩
              rw [HOK2.out]
              have hb_ := hb_
              clear hb_
              have HB_ := Lib.hid (HB.out.grow' hb_)
              clear HB
              have HB := HB_
              clear HB_
              have HP_ := Lib.hid (HP.out.grow hb_)
              clear HP
              have HP := HP_
              clear HP_
              have HT_ := Lib.hid (HT.out.grow hb_)
              clear HT
              have HT := HT_
              clear HT_
              have HSK_ := Lib.hid (HSK.out.grow hb_)
              clear HSK
              have HSK := HSK_
              clear HSK_
              have HCK_ := Lib.hid (HCK.out.grow hb_)
              clear HCK
              have HCK := HCK_
              clear HCK_
              have HI2_ := Lib.hid (HI2.out.grow hb_)
              clear HI2
              have HI2 := HI2_
              clear HI2_
              have HVR_ := Lib.hid (HVR.out.grow hb_)
              clear HVR
              have HVR := HVR_
              clear HVR_
              clear hb_
              try clear w_
              rename World => w_
              go_wp2_with (first | (with_reducible refine wpl_alloc (o := ⟨some 19, _, _, _, _, _⟩) rfl rfl zero_id ?_))
              intro w1_ hb1_ hbw1_ hsz1_
              have HB1_ := Lib.hid (at_mk hb1_ len_id)
              have HBW1_ := Lib.hid hbw1_
              have HZ1_ := Lib.hid hsz1_
              clear hb1_ hbw1_ hsz1_
              go_wp2_with (first | (with_reducible refine wpl_storeb (o := ⟨none, .store _ _ _, _, _, _, _⟩) rfl rfl row_id HB1_.out.blk rfl rfl HB1_.out.len HZ2.out.len HZ2.out.one ?_))
              intro w2_ hb2_ hg2_ hsz2_
              have hb_ := var_grow HBW1_.out HZ1_.out hg2_
              have HX_ := Lib.hid (at_mk hb2_ HZ2.out.len)
              clear hb2_ hg2_ hsz2_ HB1_ HBW1_ HZ1_
              have HB_ := Lib.hid (HB.out.grow' hb_)
              clear HB
              have HB := HB_
              clear HB_
              have HP_ := Lib.hid (HP.out.grow hb_)
              clear HP
              have HP := HP_
              clear HP_
              have HT_ := Lib.hid (HT.out.grow hb_)
              clear HT
              have HT := HT_
              clear HT_
              have HSK_ := Lib.hid (HSK.out.grow hb_)
              clear HSK
              have HSK := HSK_
              clear HSK_
              have HCK_ := Lib.hid (HCK.out.grow hb_)
              clear HCK
              have HCK := HCK_
              clear HCK_
              have HI2_ := Lib.hid (HI2.out.grow hb_)
              clear HI2
              have HI2 := HI2_
              clear HI2_
              have HVR_ := Lib.hid (HVR.out.grow hb_)
              clear HVR
              have HVR := HVR_
              clear HVR_
              generalize hg_ : w_.heap.size = g19 at HX_ ⊢
              clear hg_
              have HV19 := HX_
              clear hb_ HX_
              clear w1_
              try clear w_
              rename World => w_
              cases d3 with
              | true =>
                go_wp2_with (first | (with_reducible refine wpl_loadb (o := ⟨_, .load _ _, _, _, _, _⟩) rfl rfl row_id HV19.out.blk rfl HV19.out.len ?_) | (with_reducible refine wpl_loadw (o := ⟨_, .load _ _, _, _, _, _⟩) (by first | rfl | (go_simp; done) | fail) rfl row_id HV19.out.blk rfl HV19.out.len ?_) | (with_reducible refine wpl_loadb (o := ⟨_, .load _ _, _, _, _, _⟩) rfl rfl row_id HVR.out.blk rfl HVR.out.len ?_) | (with_reducible refine wpl_loadw (o := ⟨_, .load _ _, _, _, _, _⟩) (by first | rfl | (go_simp; done) | fail) rfl row_id HVR.out.blk rfl HVR.out.len ?_))
                go_wp2_with fail
                refine (awake5_any _ HT.out).mono ?_
                rintro e w_ ⟨rfl, hb_⟩
                have HB_ := Lib.hid (HB.out.grow' hb_)
                clear HB
                have HB := HB_
                clear HB_
                clear hb_
                go_wp2_with fail
                go_ret
                exact ⟨rfl, HB.out⟩
              | false =>
                go_wp2_with (first | (with_reducible refine wpl_loadb (o := ⟨_, .load _ _, _, _, _, _⟩) rfl rfl row_id HV19.out.blk rfl HV19.out.len ?_) | (with_reducible refine wpl_loadw (o := ⟨_, .load _ _, _, _, _, _⟩) (by first | rfl | (go_simp; done) | fail) rfl row_id HV19.out.blk rfl HV19.out.len ?_) | (with_reducible refine wpl_loadb (o := ⟨_, .load _ _, _, _, _, _⟩) rfl rfl row_id HVR.out.blk rfl HVR.out.len ?_) | (with_reducible refine wpl_loadw (o := ⟨_, .load _ _, _, _, _, _⟩) (by first | rfl | (go_simp; done) | fail) rfl row_id HVR.out.blk rfl HVR.out.len ?_))
                go_wp2_with fail
                have HR3 := Lib.hid (show decide (climbT bk k n ds2 = some (rootB (ps.map Prod.snd))) = false by
                  by_cases h : climbT bk k n ds2 = some (rootB (ps.map Prod.snd))
                  · have h2 := HD3.out; rw [climbD_of h] at h2; simp at h2
                  · simpa using h)
                have HR4 := Lib.hid (show decide (climbT bk k n (ds2.drop 1) = some (rootB (ps.map Prod.snd))) = false by
                  rw [HSH.out bk (ds2.drop 1) (by rw [List.length_drop, HL2.out, HM.out]; omega)]; simp)
                have HQD := Lib.hid (HI2.out.drop1 hm1)
                have HL2D := Lib.hid (show (ds2.drop 1).length ≤ 40 by rw [List.length_drop, HL2.out]; omega)
                by_cases hce : c17 = 1
                · subst hce
                  obtain rfl : m = 1 := by omega
                  have HQE := Lib.hid (show Ids w_ (some ⟨g17, 0, none⟩) 0 0 (ds2.drop 1) by have h := HQD.out; rw [if_pos rfl] at h; exact h)
                  clear HQD
                  have hcell := HCK.out
                  unfold KeepC at hcell
                  try go_wp2_with fail
                  repeat' (first | (with_reducible refine wp_flow (id := 20) [0,0,0,6,14,0,0,64,0,511,1023,2047,4095,4095,4095,28671,61439,4095,4095,266239,4095,1052671,4194303,8388607,16777215,33554431,67108863,134217727,268435455] [0,0,0,0,0,0,0,0,0,3,0,0,0,0,0,0,0,0,0,0,0,0,3,0,0,0,3,0,0] (fun i => match i with | 9 => spV (.bool false) | 22 => spV (.bool false) | 26 => spV (.bool true) | _ => spV undef) (by kernel_rfl) (by kernel_rfl) ?_) | go_values | go_skip | go_guarded | go_step | go_upon | go_back)
                  intro w_ hd_
                  have hb_ := hd_.grow
                  have HB_ := Lib.hid (HB.out.grow' hb_)
                  clear HB
                  have HB := HB_
                  clear HB_
                  have HT_ := Lib.hid (HT.out.grow hb_)
                  clear HT
                  have HT := HT_
                  clear HT_
                  have HP_ := Lib.hid (HP.out.grow hb_)
                  clear HP
                  have HP := HP_
                  clear HP_
                  have HSK_ := Lib.hid (HSK.out.grow hb_)
                  clear HSK
                  have HSK := HSK_
                  clear HSK_
                  have HCK_ := Lib.hid (HCK.out.grow hb_)
                  clear HCK
                  have HCK := HCK_
                  clear HCK_
                  have HI2_ := Lib.hid (HI2.out.grow hb_)
                  clear HI2
                  have HI2 := HI2_
                  clear HI2_
                  have HVR_ := Lib.hid (HVR.out.grow hb_)
                  clear HVR
                  have HVR := HVR_
                  clear HVR_
                  have HQE_ := Lib.hid (HQE.out.grow hb_)
                  clear HQE
                  have HQE := HQE_
                  clear HQE_
                  clear hb_ hd_
                  show wpL _ _ _ _ _ _ _ [0,1,2,3,4,5,6,7,8,9,10,11,12,13,14,15,16,17,18,19,20,21,22,23,24,25,26,27,28] _ _
                  clear hcell
                  repeat (first | (refine fl_calm rfl (by decide) (by first | exact wanted_none rfl | (go_simp; done) | fail) (fun w_ _ _ => by first | (go_simp; rfl) | (go_simp; done) | rfl) (fun K hK => ?_); go_simp; refine hK _ ?_; clear hK K) | (refine fl_skip rfl (by first | (go_simp; done) | fail) (fun K hK => ?_); go_simp; refine hK _ ?_; clear hK K) | (refine fl_load rfl (by decide) (by first | exact wanted_none rfl | (go_simp; done) | fail) rfl (by first | rfl | (go_simp; rfl)) (by kernel_rfl) (by first | exact HCK.out) (fun K hK => ?_); go_simp; refine hK _ ?_; clear hK K) | (refine fl_loadb rfl (by decide) (by first | exact wanted_none rfl | (go_simp; done) | fail) rfl row_id HVR.out.blk (by first | rfl | (go_simp; done) | rfl) HVR.out.len (fun K hK => ?_); go_simp; refine hK _ ?_; clear hK K))
                  refine fl_callv rfl (by kernel_rfl) rfl (by first | exact wanted_none rfl | (go_simp; done) | fail) (fun w_ => by first | (go_simp; exact ⟨rfl, rfl⟩) | (go_simp; rfl) | (go_simp; exact ⟨⟨rfl, rfl, rfl⟩, rfl⟩)) (fun w2_ hg_ hL_ => ?_) (fun K hK => ?_)
                  · skip
                    replace HSK := Lib.hid (HSK.out.grow hg_)
                    replace HI2 := Lib.hid (HI2.out.grow hg_)
                    replace HT := Lib.hid (HT.out.grow hg_)
                    exact tis5_any HR3.out HX.out _ HSK.out hcc (by omega) HI2.out (by omega) HT.out
                  go_simp
                  refine hK _ ?_
                  clear hK K
                  repeat (first | (refine fl_calm rfl (by decide) (by first | exact wanted_none rfl | (go_simp; done) | fail) (fun w_ _ _ => by first | (go_simp; rfl) | (go_simp; done) | rfl) (fun K hK => ?_); go_simp; refine hK _ ?_; clear hK K) | (refine fl_skip rfl (by first | (go_simp; done) | fail) (fun K hK => ?_); go_simp; refine hK _ ?_; clear hK K) | (refine fl_load rfl (by decide) (by first | exact wanted_none rfl | (go_simp; done) | fail) rfl (by first | rfl | (go_simp; rfl)) (by kernel_rfl) (by first | exact HCK.out) (fun K hK => ?_); go_simp; refine hK _ ?_; clear hK K) | (refine fl_loadb rfl (by decide) (by first | exact wanted_none rfl | (go_simp; done) | fail) rfl row_id HVR.out.blk (by first | rfl | (go_simp; done) | rfl) HVR.out.len (fun K hK => ?_); go_simp; refine hK _ ?_; clear hK K))
                  refine fl_callv rfl (by kernel_rfl) rfl (by first | exact wanted_none rfl | (go_simp; done) | fail) (fun w_ => by first | (go_simp; exact ⟨rfl, rfl⟩) | (go_simp; rfl) | (go_simp; exact ⟨⟨rfl, rfl, rfl⟩, rfl⟩)) (fun w2_ hg_ hL_ => ?_) (fun K hK => ?_)
                  · skip
                    replace HSK := Lib.hid (HSK.out.grow hg_)
                    replace HQE := Lib.hid (HQE.out.grow hg_)
                    replace HT := Lib.hid (HT.out.grow hg_)
                    exact tis5_any HR4.out HX.out _ HSK.out hcc (by omega) HQE.out (by omega) HT.out
                  go_simp
                  refine hK _ ?_
                  clear hK K
                  repeat (first | (refine fl_calm rfl (by decide) (by first | exact wanted_none rfl | (go_simp; done) | fail) (fun w_ _ _ => by first | (go_simp; rfl) | (go_simp; done) | rfl) (fun K hK => ?_); go_simp; refine hK _ ?_; clear hK K) | (refine fl_skip rfl (by first | (go_simp; done) | fail) (fun K hK => ?_); go_simp; refine hK _ ?_; clear hK K) | (refine fl_load rfl (by decide) (by first | exact wanted_none rfl | (go_simp; done) | fail) rfl (by first | rfl | (go_simp; rfl)) (by kernel_rfl) (by first | exact HCK.out) (fun K hK => ?_); go_simp; refine hK _ ?_; clear hK K) | (refine fl_loadb rfl (by decide) (by first | exact wanted_none rfl | (go_simp; done) | fail) rfl row_id HVR.out.blk (by first | rfl | (go_simp; done) | rfl) HVR.out.len (fun K hK => ?_); go_simp; refine hK _ ?_; clear hK K))
                  refine fl_callv rfl (by kernel_rfl) rfl (by first | exact wanted_none rfl | (go_simp; done) | fail) (fun w_ => by first | (go_simp; exact ⟨rfl, rfl⟩) | (go_simp; rfl) | (go_simp; exact ⟨⟨rfl, rfl, rfl⟩, rfl⟩)) (fun w2_ hg_ hL_ => ?_) (fun K hK => ?_)
                  · skip
                    replace HT := Lib.hid (HT.out.grow hg_)
                    exact awake5_any _ HT.out
                  go_simp
                  refine hK _ ?_
                  clear hK K
                  repeat (first | (refine fl_calm rfl (by decide) (by first | exact wanted_none rfl | (go_simp; done) | fail) (fun w_ _ _ => by first | (go_simp; rfl) | (go_simp; done) | rfl) (fun K hK => ?_); go_simp; refine hK _ ?_; clear hK K) | (refine fl_skip rfl (by first | (go_simp; done) | fail) (fun K hK => ?_); go_simp; refine hK _ ?_; clear hK K))
                  refine fl_done ?_
                  intro w2_ hg_ hL_
                  replace HB := Lib.hid (HB.out.grow' hg_)
                  clear hg_ hL_
                  try clear w_
                  rename World => w_
                  go_wp2_with fail
                  go_ret
                  exact ⟨rfl, HB.out⟩
                · have HQE := Lib.hid (show Ids w_ (some ⟨g17, 32, none⟩) (m - 1) (c17 - 1) (ds2.drop 1) by have h := HQD.out; rw [if_neg hce] at h; exact h)
                  have hceq := eq_false hce
                  have hcq : (c17 == 1) = false := by simpa using hce
                  clear HQD
                  have hcell := HCK.out
                  unfold KeepC at hcell
                  try go_wp2_with fail
                  repeat' (first | (with_reducible refine wp_flow (id := 20) [0,0,0,6,14,0,0,64,0,511,1023,2047,4095,4095,4095,28671,61439,4095,4095,266239,4095,1052671,4194303,8388607,16777215,33554431,67108863,134217727,268435455] [0,0,0,0,0,0,0,0,0,3,0,0,0,0,0,0,0,0,0,0,0,0,3,0,0,0,3,0,0] (fun i => match i with | 9 => spV (.bool false) | 22 => spV (.bool false) | 26 => spV (.bool true) | _ => spV undef) (by kernel_rfl) (by kernel_rfl) ?_) | go_values | go_skip | go_guarded | go_step | go_upon | go_back)
                  intro w_ hd_
                  have hb_ := hd_.grow
                  have HB_ := Lib.hid (HB.out.grow' hb_)
                  clear HB
                  have HB := HB_
                  clear HB_
                  have HT_ := Lib.hid (HT.out.grow hb_)
                  clear HT
                  have HT := HT_
                  clear HT_
                  have HP_ := Lib.hid (HP.out.grow hb_)
                  clear HP
                  have HP := HP_
                  clear HP_
                  have HSK_ := Lib.hid (HSK.out.grow hb_)
                  clear HSK
                  have HSK := HSK_
                  clear HSK_
                  have HCK_ := Lib.hid (HCK.out.grow hb_)
                  clear HCK
                  have HCK := HCK_
                  clear HCK_
                  have HI2_ := Lib.hid (HI2.out.grow hb_)
                  clear HI2
                  have HI2 := HI2_
                  clear HI2_
                  have HVR_ := Lib.hid (HVR.out.grow hb_)
                  clear HVR
                  have HVR := HVR_
                  clear HVR_
                  have HQE_ := Lib.hid (HQE.out.grow hb_)
                  clear HQE
                  have HQE := HQE_
                  clear HQE_
                  clear hb_ hd_
                  show wpL _ _ _ _ _ _ _ [0,1,2,3,4,5,6,7,8,9,10,11,12,13,14,15,16,17,18,19,20,21,22,23,24,25,26,27,28] _ _
                  clear hcell
                  repeat (first | (refine fl_calm rfl (by decide) (by first | exact wanted_none rfl | (go_simp; done) | fail) (fun w_ _ _ => by first | (go_simp; rfl) | (go_simp; done) | rfl) (fun K hK => ?_); go_simp; refine hK _ ?_; clear hK K) | (refine fl_skip rfl (by first | (go_simp; done) | fail) (fun K hK => ?_); go_simp; refine hK _ ?_; clear hK K) | (refine fl_load rfl (by decide) (by first | exact wanted_none rfl | (go_simp; done) | fail) rfl (by first | rfl | (go_simp; rfl)) (by kernel_rfl) (by first | exact HCK.out) (fun K hK => ?_); go_simp; refine hK _ ?_; clear hK K) | (refine fl_loadb rfl (by decide) (by first | exact wanted_none rfl | (go_simp; done) | fail) rfl row_id HVR.out.blk (by first | rfl | (go_simp; done) | rfl) HVR.out.len (fun K hK => ?_); go_simp; refine hK _ ?_; clear hK K))
                  refine fl_callv rfl (by kernel_rfl) rfl (by first | exact wanted_none rfl | (go_simp; done) | fail) (fun w_ => by first | (go_simp; exact ⟨rfl, rfl⟩) | (go_simp; rfl) | (go_simp; exact ⟨⟨rfl, rfl, rfl⟩, rfl⟩)) (fun w2_ hg_ hL_ => ?_) (fun K hK => ?_)
                  · skip
                    replace HSK := Lib.hid (HSK.out.grow hg_)
                    replace HI2 := Lib.hid (HI2.out.grow hg_)
                    replace HT := Lib.hid (HT.out.grow hg_)
                    exact tis5_any HR3.out HX.out _ HSK.out hcc (by omega) HI2.out (by omega) HT.out
                  go_simp
                  refine hK _ ?_
                  clear hK K
                  repeat (first | (refine fl_calm rfl (by decide) (by first | exact wanted_none rfl | (go_simp; done) | fail) (fun w_ _ _ => by first | (go_simp; rfl) | (go_simp; done) | rfl) (fun K hK => ?_); go_simp; refine hK _ ?_; clear hK K) | (refine fl_skip rfl (by first | (go_simp; done) | fail) (fun K hK => ?_); go_simp; refine hK _ ?_; clear hK K) | (refine fl_load rfl (by decide) (by first | exact wanted_none rfl | (go_simp; done) | fail) rfl (by first | rfl | (go_simp; rfl)) (by kernel_rfl) (by first | exact HCK.out) (fun K hK => ?_); go_simp; refine hK _ ?_; clear hK K) | (refine fl_loadb rfl (by decide) (by first | exact wanted_none rfl | (go_simp; done) | fail) rfl row_id HVR.out.blk (by first | rfl | (go_simp; done) | rfl) HVR.out.len (fun K hK => ?_); go_simp; refine hK _ ?_; clear hK K))
                  refine fl_calm rfl (by decide) (v := .slice (some ⟨g17, 32, none⟩) (m - 1) (c17 - 1)) (by first | exact wanted_none rfl | (go_simp; done) | fail) (fun w_ _ _ => ?_) (fun K hK => ?_)
                  · go_simp
                  go_simp
                  refine hK _ ?_
                  clear hK K
                  repeat (first | (refine fl_calm rfl (by decide) (by first | exact wanted_none rfl | (go_simp; done) | fail) (fun w_ _ _ => by first | (go_simp; rfl) | (go_simp; done) | rfl) (fun K hK => ?_); go_simp; refine hK _ ?_; clear hK K) | (refine fl_skip rfl (by first | (go_simp; done) | fail) (fun K hK => ?_); go_simp; refine hK _ ?_; clear hK K) | (refine fl_load rfl (by decide) (by first | exact wanted_none rfl | (go_simp; done) | fail) rfl (by first | rfl | (go_simp; rfl)) (by kernel_rfl) (by first | exact HCK.out) (fun K hK => ?_); go_simp; refine hK _ ?_; clear hK K) | (refine fl_loadb rfl (by decide) (by first | exact wanted_none rfl | (go_simp; done) | fail) rfl row_id HVR.out.blk (by first | rfl | (go_simp; done) | rfl) HVR.out.len (fun K hK => ?_); go_simp; refine hK _ ?_; clear hK K))
                  refine fl_callv rfl (by kernel_rfl) rfl (by first | exact wanted_none rfl | (go_simp; done) | fail) (fun w_ => by first | (go_simp; exact ⟨rfl, rfl⟩) | (go_simp; rfl) | (go_simp; exact ⟨⟨rfl, rfl, rfl⟩, rfl⟩)) (fun w2_ hg_ hL_ => ?_) (fun K hK => ?_)
                  · skip
                    replace HSK := Lib.hid (HSK.out.grow hg_)
                    replace HQE := Lib.hid (HQE.out.grow hg_)
                    replace HT := Lib.hid (HT.out.grow hg_)
                    exact tis5_any HR4.out HX.out _ HSK.out hcc (by omega) HQE.out (by omega) HT.out
                  go_simp
                  refine hK _ ?_
                  clear hK K
                  repeat (first | (refine fl_calm rfl (by decide) (by first | exact wanted_none rfl | (go_simp; done) | fail) (fun w_ _ _ => by first | (go_simp; rfl) | (go_simp; done) | rfl) (fun K hK => ?_); go_simp; refine hK _ ?_; clear hK K) | (refine fl_skip rfl (by first | (go_simp; done) | fail) (fun K hK => ?_); go_simp; refine hK _ ?_; clear hK K) | (refine fl_load rfl (by decide) (by first | exact wanted_none rfl | (go_simp; done) | fail) rfl (by first | rfl | (go_simp; rfl)) (by kernel_rfl) (by first | exact HCK.out) (fun K hK => ?_); go_simp; refine hK _ ?_; clear hK K) | (refine fl_loadb rfl (by decide) (by first | exact wanted_none rfl | (go_simp; done) | fail) rfl row_id HVR.out.blk (by first | rfl | (go_simp; done) | rfl) HVR.out.len (fun K hK => ?_); go_simp; refine hK _ ?_; clear hK K))
                  refine fl_callv rfl (by kernel_rfl) rfl (by first | exact wanted_none rfl | (go_simp; done) | fail) (fun w_ => by first | (go_simp; exact ⟨rfl, rfl⟩) | (go_simp; rfl) | (go_simp; exact ⟨⟨rfl, rfl, rfl⟩, rfl⟩)) (fun w2_ hg_ hL_ => ?_) (fun K hK => ?_)
                  · skip
                    replace HT := Lib.hid (HT.out.grow hg_)
                    exact awake5_any _ HT.out
                  go_simp
                  refine hK _ ?_
                  clear hK K
                  repeat (first | (refine fl_calm rfl (by decide) (by first | exact wanted_none rfl | (go_simp; done) | fail) (fun w_ _ _ => by first | (go_simp; rfl) | (go_simp; done) | rfl) (fun K hK => ?_); go_simp; refine hK _ ?_; clear hK K) | (refine fl_skip rfl (by first | (go_simp; done) | fail) (fun K hK => ?_); go_simp; refine hK _ ?_; clear hK K))
                  refine fl_done ?_
                  intro w2_ hg_ hL_
                  replace HB := Lib.hid (HB.out.grow' hg_)
                  clear hg_ hL_
                  try clear w_
                  rename World => w_
                  go_wp2_with fail
                  go_ret
                  exact ⟨rfl, HB.out⟩
            · have gm : decide ((ds.length : Int) < 1) = true := by simp; omega
              have hm0 : ds.length = 0 := by omega
              go_wp2_with fail
              refine (awake5_any _ HT.out).mono ?_
              rintro e w_ ⟨rfl, hb_⟩
              have HB_ := Lib.hid (HB.out.grow' hb_)
              clear HB
              have HB := HB_
              clear HB_
              clear hb_
              go_wp2_with fail
              go_ret
              exact ⟨rfl, HB.out⟩
      · have g3 : decide (60 < (nb : Int)) = true := by simp; omega
        go_wp2_with fail
        refine (awake5_any _ HT.out).mono ?_
        rintro e w_ ⟨rfl, hb_⟩
        have HB_ := Lib.hid (HB.out.grow' hb_)
        clear HB
        have HB := HB_
        clear HB_
        clear hb_
        go_wp2_with fail
        go_ret
        exact ⟨rfl, HB.out⟩
    · have g2 : decide ((n : Int) < 1) = true := by simp; omega
      go_wp2_with fail
      refine (awake5_any _ HT.out).mono ?_
      rintro e w_ ⟨rfl, hb_⟩
      have HB_ := Lib.hid (HB.out.grow' hb_)
      clear HB
      have HB := HB_
      clear HB_
      clear hb_
      go_wp2_with fail
      go_ret
      exact ⟨rfl, HB.out⟩
theorem treeOther_walk (A : Option Addr) (n c : Nat) (ps : List (Value × List UInt8)) (z : Int) (Ab : Option Addr) (nb cb : Nat) (b : List UInt8) (tu bi : Int) (w : World) (hp : Parts w w.heap.size A n ps) (hc : n ≤ c) (hm : c ≤ maxLen) (hz : (Lit.int .i64 z).wf = true) (hs : Sl w w.heap.size 1 Ab nb (b.map B)) (hcb : nb ≤ cb) (hmb : cb ≤ maxLen) (ht1 : (Lit.int .u8 tu).wf = true) (ht2 : (Lit.int .u8 bi).wf = true) (ht : Tabs w) :
    Calls Tryd.prog 15 #[.slice A n c, .int .i64 z, .slice Ab nb cb, .int .u8 tu, .int .u8 bi] w fun e w' => e = .returned (.bool true) ∧ Below w.heap.size w w' :=
  treeOther_any A Ab n c nb cb ps b z tu bi w hp hc hs hcb (bounds_i64 hz).1 (bounds_i64 hz).2 (bounds_u8 ht1).1 (bounds_u8 ht1).2 (bounds_u8 ht2).1 (bounds_u8 ht2).2 ht
end Go.Proofs.YtlondennhhffdaaDoor

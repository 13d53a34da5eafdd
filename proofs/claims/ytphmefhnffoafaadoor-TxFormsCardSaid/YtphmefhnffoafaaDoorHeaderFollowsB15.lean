/- Layer 5, the document's answer: a digest's bytes, a leaf, a node, the root. -/
import Derived.Test.YtphmefhnffoafaaDoorHeaderFollowsB13
import Derived.Test.YtphmefhnffoafaaDoorHeaderFollowsB14
set_option linter.unusedSimpArgs false
/- Layer 5, the document's answer: a digest's bytes, a leaf, a node, the root. -/
namespace Go.Proofs.YtphmefhnffoafaaDoor
open Go.RowKit Go.Shelf
set_option linter.unusedVariables false

theorem rid_any {xs : List Value} {d : List UInt8} (hx : Dig xs d) (w : World) :
    Calls Tryd.prog 133 #[.agg xs.toArray] w fun e w' => ∃ A' c', e = .returned (.slice A' 32 c') ∧ Sl w' w'.heap.size 1 A' 32 (d.map B) ∧ 32 ≤ c' ∧ Below w.heap.size w w' := by
  have HD := Lib.hid hx
  have HB := Lib.hid (Below.refl w.heap.size w)
  clear hx
  go_enter Tryd.func133, Tryd.ntmps133
  go_wp2_with (first | (with_reducible refine wpl_box (o := ⟨some 1, _, _, _, _, _⟩) rfl rfl rfl ?_))
  intro w2_ hb2_ hb_ hsz2_
  have HX_ := Lib.hid (at_mk hb2_ HD.out.len)
  clear hb2_ hsz2_
  have HB_ := Lib.hid (HB.out.grow' hb_)
  clear HB
  have HB := HB_
  clear HB_
  have HX := HX_
  clear hb_ HX_
  try clear w_
  rename World => w_
  go_wp2_with fail
  go_loopw [3, 4] (fun v i wr => ∃ k : Nat, ∃ A' c', k ≤ 32 ∧ i = .int .i64 k ∧ v = .slice A' k c' ∧ Hid (wr.ownsRow (w.heap.size + 1) 5 1 (.slice A' k c') k (xs.take k)) ∧ Hid (Below w.heap.size w wr) ∧ Hid (At wr w.heap.size 23 32 xs)) (fun _ i _ => 32 - (intOf i).toNat)
  case atStart => exact ⟨0, none, 0, by omega, rfl, rfl, Lib.hid (by simpa using World.ownsRow_nil _ _ _ _), HB, HX⟩
  case round =>
    obtain ⟨k, A3, c3, hk, rfl, rfl, hown, hbw, hat⟩ := hrel
    clear HB HX
    by_cases hlt : k < 32
    · obtain ⟨x, hx, _⟩ := HD.out.at_ hlt
      have hc := hat.out.blk.at_ hx
      have HXK := Lib.hid hx
      clear hx
      go_wp2_with (at_builtin; refine wpl_app1 rfl rfl el_u8 hown.out rfl (m := 1) rfl rfl ?_ ?_ ?_ ?_ ?_)
      · rfl
      · omega
      · omega
      · have := hat.out.lt; omega
      · intro A4 c4 w4 ho hg hA
        have HO := Lib.hid (show w4.ownsRow (w.heap.size + 1) 5 1 (.slice A4 (k + 1) c4) (k + 1) (xs.take (k + 1)) by rw [List.take_add_one, HXK.out]; exact ho)
        have HB := Lib.hid (show Below w.heap.size w w4 from hbw.out.grown hg hbw.out.size (fun g hg => by have := own_from hown.out g hg; omega))
        have HX := Lib.hid (at_mk (hat.out.blk.grown hg (by intro hh; have := own_from hown.out _ hh.symm; omega)) hat.out.len)
        clear ho hg hA hc
        go_wp2_with fail
        go_roundw
        case rel => exact ⟨k + 1, A4, c4, by omega, by go_num, rfl, HO, HB, HX⟩
        case measure => simp [intOf]; omega
    · obtain rfl : k = 32 := by omega
      have e : xs.take 32 = d.map B := by rw [List.take_of_length_le (by rw [HD.out.len]; exact Nat.le_refl _), HD.out.1]
      have HO := Lib.hid (e ▸ hown.out)
      clear e
      have HC := Lib.hid (own_form hown.out (by omega))
      go_wp2_with fail
      go_ret
      exact ⟨A3, c3, rfl, Sl.of_own HO.out, (by obtain ⟨g, _, _, _, h⟩ := HC.out; exact h), hbw.out⟩

theorem rid_n {xs : List Value} {d : List UInt8} (hx : Dig xs d) (w : World) :
    Calls Tryd.prog 133 #[.agg xs.toArray] w fun e w' => ∃ A' c', e = .returned (.slice A' 32 c') ∧ Sl w' w'.heap.size 1 A' 32 (d.map B) ∧ 32 ≤ c' ∧ Below w.heap.size w w' := rid_any hx w

/-- A mark laid as a row, a length and bytes appended behind it. -/
theorem under1' (m : UInt8) (a : List UInt8) : underB m [a] = [m] ++ (beBytes a.length 4 ++ a) := by
  have : underB m [] = [m] := by unfold underB; simp
  rw [show [a] = [] ++ [a] from rfl, underB_snoc, this]
theorem under2' (m : UInt8) (a b : List UInt8) : underB m [a, b] = [m] ++ (beBytes a.length 4 ++ a) ++ (beBytes b.length 4 ++ b) := by
  rw [show [a, b] = [a] ++ [b] from rfl, underB_snoc, under1']
theorem under_eq (m : UInt8) (bs : List UInt8) (n : Nat) (h : bs.length = n) : (underB m [bs]).map B = [B m] ++ (beBytes n 4 ++ bs).map B := by
  rw [under1', h]; simp only [List.map_append, List.map_cons, List.map_nil]

set_option maxRecDepth 100000 in
set_option maxHeartbeats 1000000 in
theorem rleaf_any (A : Option Addr) (n c : Nat) (bs : List UInt8) {xs : List Value} (hx : Dig xs (leafB bs)) (w : World) (hs : Sl w w.heap.size 1 A n (bs.map B)) (hn : n ≤ 1000000) :
    Calls Tryd.prog 99 #[.slice A n c] w fun e w' => e = .returned (.agg xs.toArray) ∧ Below w.heap.size w w' := by
  have HS := Lib.hid hs
  have HD := Lib.hid (show Dig xs (sha (underB 1 [bs])) by unfold leafB at hx; exact hx)
  have HB := Lib.hid (Below.refl w.heap.size w)
  have HG := Lib.hid (Nat.le_refl w.heap.size)
  have HL := Lib.hid (show bs.length = n by have := hs.len; simpa using this)
  clear hs hx
  go_enter Tryd.func99, Tryd.ntmps99
  go_wp2_with (first | (with_reducible refine wpl_alloc (o := ⟨some 2, _, _, _, _, _⟩) rfl rfl zero_id ?_))
  intro w2_ hb2_ hb_ hsz2_
  have HX_ := Lib.hid (at_mk hb2_ len_id)
  clear hb2_ hsz2_
  have HB_ := Lib.hid (HB.out.grow' hb_)
  clear HB
  have HB := HB_
  clear HB_
  have HS_ := Lib.hid (HS.out.grow hb_)
  clear HS
  have HS := HS_
  clear HS_
  have HR := HX_
  clear hb_ HX_
  try clear w_
  rename World => w_
  go_wp2_with fail
  generalize hw_ : World.alloc w_ _ = w1_
  obtain ⟨hX_, hb1, hs_⟩ := alloc_eq hw_
  have HO := Lib.hid (own_blk (base := w_.heap.size) hX_ (n := 1) rfl (Nat.le_refl _) (by simp [maxLen]))
  have HG1 := Lib.hid hb1
  have HS1 := Lib.hid (HS.out.grow hb1)
  clear hw_ hX_ hb1 hs_
  refine (long_any _ _ _ bs _ HS1.out (by omega)).mono ?_
  rintro e w2_ ⟨A5, c5, rfl, ho_, hb_⟩
  have HLG := Lib.hid (Sl.of_own ho_)
  have HA := Lib.hid (all_bytes (beBytes n 4 ++ bs))
  have HO2 := Lib.hid (own_below HO.out hb_)
  have HG2 := Lib.hid (Grow.trans _ _ _ HG1.out hb_)
  clear ho_ hb_ HO HS1 HG1
  go_wp2_with (at_builtin; refine wpl_apps rfl rfl el_u8 HO2.out rfl HLG.out rfl HA.out (by omega) (by omega) HG2.out.size ?_)
  intro A6 c6 w4 ho hg hA
  have hb4 : Grow w_ w4 := app_below HG2.out HO2.out hg
  have HX := Lib.hid (show Sl w4 w4.heap.size 1 A6 (1 + (4 + n)) ((underB 1 [bs]).map B) by
    have h := Sl.of_own ho
    rw [under_eq 1 bs n HL.out]
    try simp only [List.map_append, List.map_cons, List.map_nil, List.cons_append, List.nil_append, List.append_assoc] at h
    simp only [List.map_append, List.map_cons, List.map_nil, List.cons_append, List.nil_append, List.append_assoc]
    exact h)
  have HB_ := Lib.hid (HB.out.grow' hb4)
  have HR_ := Lib.hid (HR.out.grow hb4)
  clear HB HR ho hg hA HO2 HG2 HLG HA hb4
  have HB := HB_
  have HR := HR_
  clear HB_ HR_
  try clear w_
  rename World => w_
  go_wp2_with fail
  refine (dof_any _ _ _ HD.out _ HX.out (by omega)).mono ?_
  rintro e w_ ⟨rfl, hb_⟩
  have HB_ := Lib.hid (HB.out.grow' hb_)
  clear HB
  have HB := HB_
  clear HB_
  have HR_ := Lib.hid (HR.out.grow hb_)
  clear HR
  have HR := HR_
  clear HR_
  clear hb_
  go_wp2_with (first | (with_reducible refine wpl_storeb (o := ⟨none, .store _ _ _, _, _, _, _⟩) rfl rfl row_id HR.out.blk rfl rfl HR.out.len HD.out.len HD.out.one ?_))
  intro w2_ hb2_ hg2_ hsz2_
  have HB_ := Lib.hid (put_below HB.out HG.out hg2_)
  have HX_ := Lib.hid (at_mk hb2_ HD.out.len)
  clear hb2_ hg2_ hsz2_ HB HR
  have HB := HB_
  have HR := HX_
  clear HB_ HX_
  try clear w_
  rename World => w_
  go_wp2_with fail
  exact ret_cell rfl row_id HR.out.blk rfl HR.out.len rfl ⟨rfl, HB.out⟩

set_option maxRecDepth 100000 in
set_option maxHeartbeats 1000000 in
theorem rnode_any {a b : List UInt8} {ys zs xs : List Value} (ha : Dig ys a) (hb : Dig zs b) (hx : Dig xs (nodeB a b)) (w : World) :
    Calls Tryd.prog 98 #[.agg ys.toArray, .agg zs.toArray] w fun e w' => e = .returned (.agg xs.toArray) ∧ Below w.heap.size w w' := by
  have HA := Lib.hid ha; have HBB := Lib.hid hb
  have HD := Lib.hid (show Dig xs (sha (underB 2 [a, b])) by unfold nodeB at hx; exact hx)
  have HB := Lib.hid (Below.refl w.heap.size w)
  clear ha hb hx
  go_enter Tryd.func98, Tryd.ntmps98
  go_wp2_with (first | (with_reducible refine wpl_box (o := ⟨some 2, _, _, _, _, _⟩) rfl rfl rfl ?_))
  intro w2_ hb2_ hb_ hsz2_
  have HX_ := Lib.hid (at_mk hb2_ HA.out.len)
  clear hb2_ hsz2_
  have HB_ := Lib.hid (HB.out.grow' hb_)
  clear HB
  have HB := HB_
  clear HB_
  have HV1 := HX_
  clear hb_ HX_
  try clear w_
  rename World => w_
  go_wp2_with (first | (with_reducible refine wpl_box (o := ⟨some 3, _, _, _, _, _⟩) rfl rfl rfl ?_))
  intro w2_ hb2_ hb_ hsz2_
  have HX_ := Lib.hid (at_mk hb2_ HBB.out.len)
  clear hb2_ hsz2_
  have HG_ := Lib.hid HB.out.size
  have HB_ := Lib.hid (HB.out.grow' hb_)
  clear HB
  have HB := HB_
  clear HB_
  have HV1_ := Lib.hid (HV1.out.grow hb_)
  clear HV1
  have HV1 := HV1_
  clear HV1_
  generalize hg_ : w_.heap.size = g2 at HX_ HG_ ⊢
  clear hg_
  have HV2_g := HG_
  clear HG_
  have HV2 := HX_
  clear hb_ HX_
  try clear w_
  rename World => w_
  go_wp2_with (first | (with_reducible refine wpl_alloc (o := ⟨some 4, _, _, _, _, _⟩) rfl rfl zero_id ?_))
  intro w2_ hb2_ hb_ hsz2_
  have HX_ := Lib.hid (at_mk hb2_ len_id)
  clear hb2_ hsz2_
  have HG_ := Lib.hid HB.out.size
  have HB_ := Lib.hid (HB.out.grow' hb_)
  clear HB
  have HB := HB_
  clear HB_
  have HV1_ := Lib.hid (HV1.out.grow hb_)
  clear HV1
  have HV1 := HV1_
  clear HV1_
  have HV2_ := Lib.hid (HV2.out.grow hb_)
  clear HV2
  have HV2 := HV2_
  clear HV2_
  generalize hg_ : w_.heap.size = gr at HX_ HG_ ⊢
  clear hg_
  have HR_g := HG_
  clear HG_
  have HR := HX_
  clear hb_ HX_
  try clear w_
  rename World => w_
  have HG := HR_g
  have ha1 := alloc_new w_ #[.int .u8 2] 5
  have HO := Lib.hid (World.ownsRow_lit (base := w_.heap.size) (e := 5) (size := 1) w_ #[.int .u8 2] 1 (Nat.le_refl _) (by simp [maxLen]) rfl)
  have HV1A := Lib.hid (HV1.out.grow ha1.2.1)
  have HG1 := Lib.hid ha1.2.1
  clear ha1
  go_wp2_with (first | (with_reducible refine wpl_loadb (o := ⟨_, .load _ _, _, _, _, _⟩) rfl rfl row_id HV1A.out.blk rfl HV1A.out.len ?_) | (with_reducible refine wpl_loadw (o := ⟨_, .load _ _, _, _, _, _⟩) (by first | rfl | (go_simp; done) | fail) rfl row_id HV1A.out.blk rfl HV1A.out.len ?_))
  refine (rid_n HA.out _).mono ?_
  rintro e w2_ ⟨A3, c3, rfl, hs3, hc3, hb_⟩
  have HS3 := Lib.hid hs3
  have HO2 := Lib.hid (own_below HO.out hb_)
  have HG2 := Lib.hid (Grow.trans _ _ _ HG1.out hb_)
  clear hs3 hb_ HO HG1 HV1A
  go_wp2_with fail
  refine (long_any _ _ _ a _ HS3.out (by omega)).mono ?_
  rintro e w3_ ⟨A5, c5, rfl, ho_, hb_⟩
  have HLG := Lib.hid (Sl.of_own ho_)
  have HAB := Lib.hid (all_bytes (beBytes 32 4 ++ a))
  have HO3 := Lib.hid (own_below HO2.out hb_)
  have HG3 := Lib.hid (Grow.trans _ _ _ HG2.out hb_)
  clear ho_ hb_ HO2 HS3 HG2
  go_wp2_with (at_builtin; refine wpl_apps rfl rfl el_u8 HO3.out rfl HLG.out rfl HAB.out (by omega) (by omega) HG3.out.size ?_)
  intro A6 c6 w4 ho hg hA
  have HG4 := Lib.hid (show Grow w_ w4 from app_below HG3.out HO3.out hg)
  have HO4 := Lib.hid ho
  have HV2A := Lib.hid (HV2.out.grow HG4.out)
  clear ho hg hA HO3 HG3 HLG HAB
  go_wp2_with (first | (with_reducible refine wpl_loadb (o := ⟨_, .load _ _, _, _, _, _⟩) rfl rfl row_id HV2A.out.blk rfl HV2A.out.len ?_) | (with_reducible refine wpl_loadw (o := ⟨_, .load _ _, _, _, _, _⟩) (by first | rfl | (go_simp; done) | fail) rfl row_id HV2A.out.blk rfl HV2A.out.len ?_))
  refine (rid_n HBB.out _).mono ?_
  rintro e w5_ ⟨A7, c7, rfl, hs3, hc7, hb_⟩
  have HS3 := Lib.hid hs3
  have HO5 := Lib.hid (own_below HO4.out hb_)
  have HG5 := Lib.hid (Grow.trans _ _ _ HG4.out hb_)
  clear hs3 hb_ HO4 HG4 HV2A
  go_wp2_with fail
  refine (long_any _ _ _ b _ HS3.out (by omega)).mono ?_
  rintro e w6_ ⟨A8, c8, rfl, ho_, hb_⟩
  have HLG := Lib.hid (Sl.of_own ho_)
  have HAB := Lib.hid (all_bytes (beBytes 32 4 ++ b))
  have HO6 := Lib.hid (own_below HO5.out hb_)
  have HG6 := Lib.hid (Grow.trans _ _ _ HG5.out hb_)
  clear ho_ hb_ HO5 HS3 HG5
  go_wp2_with (at_builtin; refine wpl_apps rfl rfl el_u8 HO6.out rfl HLG.out rfl HAB.out (by omega) (by omega) HG6.out.size ?_)
  intro A9 c9 w7 ho hg hA
  have hb4 : Grow w_ w7 := app_below HG6.out HO6.out hg
  have HX := Lib.hid (show Sl w7 w7.heap.size 1 A9 (1 + (4 + 32) + (4 + 32)) ((underB 2 [a, b]).map B) by
    have h := Sl.of_own ho
    rw [under2', HA.out.2, HBB.out.2]
    try simp only [List.map_append, List.map_cons, List.map_nil, List.cons_append, List.nil_append, List.append_assoc] at h
    simp only [List.map_append, List.map_cons, List.map_nil, List.cons_append, List.nil_append, List.append_assoc]
    exact h)
  have HB_ := Lib.hid (HB.out.grow' hb4)
  have HR_ := Lib.hid (HR.out.grow hb4)
  clear HB HR ho hg hA HO6 HG6 HLG HAB hb4
  have HB := HB_
  have HR := HR_
  clear HB_ HR_
  try clear w_
  rename World => w_
  go_wp2_with fail
  refine (dof_any _ _ _ HD.out _ HX.out (by omega)).mono ?_
  rintro e w_ ⟨rfl, hb_⟩
  have HB_ := Lib.hid (HB.out.grow' hb_)
  clear HB
  have HB := HB_
  clear HB_
  have HR_ := Lib.hid (HR.out.grow hb_)
  clear HR
  have HR := HR_
  clear HR_
  clear hb_
  go_wp2_with (first | (with_reducible refine wpl_storeb (o := ⟨none, .store _ _ _, _, _, _, _⟩) rfl rfl row_id HR.out.blk rfl rfl HR.out.len HD.out.len HD.out.one ?_))
  intro w2_ hb2_ hg2_ hsz2_
  have HB_ := Lib.hid (put_below HB.out HG.out hg2_)
  have HX_ := Lib.hid (at_mk hb2_ HD.out.len)
  clear hb2_ hg2_ hsz2_ HB HR
  have HB := HB_
  have HR := HX_
  clear HB_ HX_
  try clear w_
  rename World => w_
  go_wp2_with fail
  exact ret_cell rfl row_id HR.out.blk rfl HR.out.len rfl ⟨rfl, HB.out⟩

set_option maxRecDepth 100000 in
set_option maxHeartbeats 1000000 in
theorem rroot_any : ∀ (N n c : Nat) (A : Option Addr) (ps : List (Value × List UInt8)) (xs : List Value) (w : World), n ≤ N → Dig xs (rootB (ps.map Prod.snd)) → Parts w w.heap.size A n ps → n ≤ c → n ≤ 16777216 → (∀ p ∈ ps, p.2.length ≤ 1000000) → Tabs w →
    Calls Tryd.prog 67 #[.slice A n c] w fun e w' => e = .returned (.agg xs.toArray) ∧ Below w.heap.size w w' := by
  intro N
  induction N with
  | zero =>
    intro n c A ps xs w hnN hx hp hc hn hl ht
    obtain rfl : n = 0 := by omega
    have HD := Lib.hid (show Dig xs (sha [0]) by
      have h := hx
      obtain rfl : ps = [] := List.eq_nil_of_length_eq_zero hp.len
      rw [List.map_nil, rootB_nil] at h; unfold noneB at h
      have e : underB 0 [] = [0] := by unfold underB; simp
      rw [e] at h; exact h)
    have HB := Lib.hid (Below.refl w.heap.size w)
    have HG := Lib.hid (Nat.le_refl w.heap.size)
    clear ht hx hp hl
    go_enter Tryd.func67, Tryd.ntmps67
    go_wp2_with (first | (with_reducible refine wpl_alloc (o := ⟨some 2, _, _, _, _, _⟩) rfl rfl zero_id ?_))
    intro w2_ hb2_ hb_ hsz2_
    have HX_ := Lib.hid (at_mk hb2_ len_id)
    clear hb2_ hsz2_
    have HB_ := Lib.hid (HB.out.grow' hb_)
    clear HB
    have HB := HB_
    clear HB_
    have HR := HX_
    clear hb_ HX_
    try clear w_
    rename World => w_
    go_wp2_with fail
    generalize hw_ : World.alloc w_ _ = w2_
    obtain ⟨hX_, hb_, hs_⟩ := alloc_eq hw_
    generalize hg_ : w_.heap.size = g at hX_ hs_ ⊢
    have HX := Lib.hid hX_
    clear hw_ hX_
    have HB_ := Lib.hid (HB.out.grow' hb_)
    clear HB
    have HB := HB_
    clear HB_
    have HR_ := Lib.hid (HR.out.grow hb_)
    clear HR
    have HR := HR_
    clear HR_
    clear hb_ hs_
    clear hg_
    try clear w_
    rename World => w_
    have HS := Lib.hid (show Sl w_ w_.heap.size 1 (some ⟨g, 0, none⟩) 1 ([0].map B) from HX.out.sl rfl)
    go_wp2_with fail
    refine (dof_any _ _ _ HD.out _ HS.out (by omega)).mono ?_
    rintro e w_ ⟨rfl, hb_⟩
    have HB_ := Lib.hid (HB.out.grow' hb_)
    clear HB
    have HB := HB_
    clear HB_
    have HR_ := Lib.hid (HR.out.grow hb_)
    clear HR
    have HR := HR_
    clear HR_
    clear hb_
    go_wp2_with (first | (with_reducible refine wpl_storeb (o := ⟨none, .store _ _ _, _, _, _, _⟩) rfl rfl row_id HR.out.blk rfl rfl HR.out.len HD.out.len HD.out.one ?_))
    intro w2_ hb2_ hg2_ hsz2_
    have HB_ := Lib.hid (put_below HB.out HG.out hg2_)
    have HX_ := Lib.hid (at_mk hb2_ HD.out.len)
    clear hb2_ hg2_ hsz2_ HB HR
    have HB := HB_
    have HR := HX_
    clear HB_ HX_
    try clear w_
    rename World => w_
    go_wp2_with fail
    exact ret_cell rfl row_id HR.out.blk rfl HR.out.len rfl ⟨rfl, HB.out⟩
  | succ N ih =>
    intro n c A ps xs w hnN hx hp hc hn hl ht
    by_cases hz : n ≤ N
    · exact ih n c A ps xs w hz hx hp hc hn hl ht
    have hnN1 : n = N + 1 := by omega
    have HT := Lib.hid ht; have HP := Lib.hid hp; have HL := Lib.hid hl
    have HN := Lib.hid hp.len
    have HB := Lib.hid (Below.refl w.heap.size w)
    have HG := Lib.hid (Nat.le_refl w.heap.size)
    have HIH := Lib.hid ih
    by_cases h1 : N = 0
    · subst h1
      obtain rfl : n = 1 := by omega
      obtain ⟨p, rfl⟩ : ∃ p, ps = [p] := by
        have := hp.len
        match ps, this with
        | [p], _ => exact ⟨p, rfl⟩
      have HD := Lib.hid (show Dig xs (leafB p.2) by have h := hx; rw [List.map_cons, List.map_nil, rootB_one] at h; exact h)
      obtain ⟨b, off, A2, c2, bs, rfl, hps, hcell, hcc, hs⟩ := hp.at_ (show 0 < 1 by omega)
      obtain rfl : p = (.slice A2 bs.length c2, bs) := by simpa using hps
      have HS := Lib.hid hs
      have hbl := hl _ (List.mem_singleton.2 rfl)
      rw [Nat.add_zero] at hcell
      have HC := Lib.hid hcell
      clear ht hx hp hl hs ih hps hcell hz hnN1
      go_enter Tryd.func67, Tryd.ntmps67
      go_wp2_with (first | (with_reducible refine wpl_alloc (o := ⟨some 2, _, _, _, _, _⟩) rfl rfl zero_id ?_))
      intro w2_ hb2_ hb_ hsz2_
      have HX_ := Lib.hid (at_mk hb2_ len_id)
      clear hb2_ hsz2_
      have HB_ := Lib.hid (HB.out.grow' hb_)
      clear HB
      have HB := HB_
      clear HB_
      have HT_ := Lib.hid (HT.out.grow hb_)
      clear HT
      have HT := HT_
      clear HT_
      have HS_ := Lib.hid (HS.out.grow hb_)
      clear HS
      have HS := HS_
      clear HS_
      have HR := HX_
      clear hb_ HX_
      try clear w_
      rename World => w_
      have hcell := bcell HB.out HC.out
      go_wp2_with fail
      refine (rleaf_any _ _ _ _ HD.out _ HS.out hbl).mono ?_
      rintro e w_ ⟨rfl, hb_⟩
      have HB_ := Lib.hid (HB.out.grow' hb_)
      clear HB
      have HB := HB_
      clear HB_
      have HR_ := Lib.hid (HR.out.grow hb_)
      clear HR
      have HR := HR_
      clear HR_
      clear hb_
      clear hcell
      go_wp2_with (first | (with_reducible refine wpl_storeb (o := ⟨none, .store _ _ _, _, _, _, _⟩) rfl rfl row_id HR.out.blk rfl rfl HR.out.len HD.out.len HD.out.one ?_))
      intro w2_ hb2_ hg2_ hsz2_
      have HB_ := Lib.hid (put_below HB.out HG.out hg2_)
      have HX_ := Lib.hid (at_mk hb2_ HD.out.len)
      clear hb2_ hg2_ hsz2_ HB HR
      have HB := HB_
      have HR := HX_
      clear HB_ HX_
      try clear w_
      rename World => w_
      go_wp2_with fail
      exact ret_cell rfl row_id HR.out.blk rfl HR.out.len rfl ⟨rfl, HB.out⟩
    · have h2 : 2 ≤ n := by omega
      obtain ⟨k, hk⟩ : ∃ k, k = halfN n := ⟨_, rfl⟩
      have hk1 : 1 ≤ k := by rw [hk]; exact halfN_pos n
      have hk2 : k < n := by rw [hk]; exact halfN_lt h2
      have hkn : k ≤ n := Nat.le_of_lt hk2
      have hkc : k ≤ c := by omega
      have HK := Lib.hid hk
      have hkN : k ≤ N := by omega
      have hdN : n - k ≤ N := by omega
      have hN1 : N + 1 ≤ n := by omega
      obtain ⟨xs1, hd1⟩ := dig_root ((ps.take k).map Prod.snd)
      obtain ⟨xs2, hd2⟩ := dig_root ((ps.drop k).map Prod.snd)
      have HD1 := Lib.hid hd1; have HD2 := Lib.hid hd2
      have HD := Lib.hid (show Dig xs (nodeB (rootB ((ps.take k).map Prod.snd)) (rootB ((ps.drop k).map Prod.snd))) by
        have h := hx
        rw [rootB_more _ (by rw [List.length_map, HN.out]; exact h2), List.length_map, HN.out, ← hk, ← List.map_take, ← List.map_drop] at h
        exact h)
      have z1 : ((n : Int) == 0) = false := by simp; omega
      have z2 : ((n : Int) == 1) = false := by simp; omega
      have z3 : decide ((n : Int) = 0) = false := by simp; omega
      have z4 : decide ((n : Int) = 1) = false := by simp; omega
      have z5 : (n == 0) = false := by simp; omega
      have z6 : (n == 1) = false := by simp; omega
      have z7 : decide (n = 0) = false := by simp; omega
      have z8 : decide (n = 1) = false := by simp; omega
      have HL1 := Lib.hid (show ∀ p ∈ ps.take k, p.2.length ≤ 1000000 from fun p hp => hl p (List.mem_of_mem_take hp))
      have HL2 := Lib.hid (show ∀ p ∈ ps.drop k, p.2.length ≤ 1000000 from fun p hp => hl p (List.mem_of_mem_drop hp))
      clear ht hx hp hl ih hd1 hd2 hk hnN1
      go_enter Tryd.func67, Tryd.ntmps67
      go_wp2_with (first | (with_reducible refine wpl_alloc (o := ⟨some 2, _, _, _, _, _⟩) rfl rfl zero_id ?_))
      intro w2_ hb2_ hb_ hsz2_
      have HX_ := Lib.hid (at_mk hb2_ len_id)
      clear hb2_ hsz2_
      have HB_ := Lib.hid (HB.out.grow' hb_)
      clear HB
      have HB := HB_
      clear HB_
      have HT_ := Lib.hid (HT.out.grow hb_)
      clear HT
      have HT := HT_
      clear HT_
      have HP_ := Lib.hid (HP.out.grow hb_)
      clear HP
      have HP := HP_
      clear HP_
      have HR := HX_
      clear hb_ HX_
      try clear w_
      rename World => w_
      go_wp2_with fail
      refine (half_any n _ h2 hn).mono ?_
      rintro e w1 ⟨rfl, rfl⟩
      rw [← HK.out]
      try go_wp2_with fail
      repeat' (first | (with_reducible refine wp_plan (id := 6) Grow [0,0,0,3,0,0,0,3,3,3] (.get 0 (.get 1 (.get 2 (.get 4 (.get 5 (.get 6 (.act 3 (.act 7 (.act 8 (.act 9 .done)))))))))) (by kernel_rfl) (by kernel_rfl) Grow.refl Grow.trans ?_) | go_values | go_skip | go_guarded | go_step | go_upon | go_back)
      intro w_ hd_
      have hb_ := hd_.grow
      have HB_ := Lib.hid (HB.out.grow' hb_)
      clear HB
      have HB := HB_
      clear HB_
      have HR_ := Lib.hid (HR.out.grow hb_)
      clear HR
      have HR := HR_
      clear HR_
      have HT_ := Lib.hid (HT.out.grow hb_)
      clear HT
      have HT := HT_
      clear HT_
      have HP_ := Lib.hid (HP.out.grow hb_)
      clear HP
      have HP := HP_
      clear HP_
      clear hb_ hd_
      repeat (first | (refine pl_calm rfl rfl (by first | exact wanted_none rfl | (go_simp; done) | rfl) (fun w_ => by first | (go_simp; rfl) | (go_simp; done) | rfl) (fun K hK => ?_); go_simp; refine hK _ _ ?_; clear hK K) | (refine pl_skip rfl (by first | (go_simp; done) | rfl) (fun K hK => ?_); go_simp; refine hK _ _ ?_; clear hK K) | (refine pl_skipa rfl (by first | (go_simp; done) | rfl) (fun K hK => ?_); go_simp; refine hK _ _ ?_; clear hK K))
      have HP1 := Lib.hid (HP.out.to1 hkn)
      have HP2 := Lib.hid (HP.out.from1 hkn hc)
      generalize (if c = k then A else Option.map (fun x => x.add k) A) = A2 at HP2 ⊢
      refine pl_act rfl (by first | exact wanted_none rfl | (go_simp; done) | rfl) (fun K hK => ?_)
      go_wp2_with fail
      refine (HIH.out k c A (ps.take k) xs1 _ (by omega) HD1.out HP1.out hkc (by omega) HL1.out HT.out).mono ?_
      rintro e w_ ⟨rfl, hb_⟩
      go_wp2_with fail
      refine hK _ _ (fun _ => hb_) ?_
      clear hK K
      have HB_ := Lib.hid (HB.out.grow' hb_)
      clear HB
      have HB := HB_
      clear HB_
      have HR_ := Lib.hid (HR.out.grow hb_)
      clear HR
      have HR := HR_
      clear HR_
      have HT_ := Lib.hid (HT.out.grow hb_)
      clear HT
      have HT := HT_
      clear HT_
      have HP2_ := Lib.hid (HP2.out.grow hb_)
      clear HP2
      have HP2 := HP2_
      clear HP2_
      clear hb_
      refine pl_act rfl (by first | exact wanted_none rfl | (go_simp; done) | rfl) (fun K hK => ?_)
      go_wp2_with fail
      refine (HIH.out (n - k) (c - k) A2 (ps.drop k) xs2 _ (by omega) HD2.out HP2.out (by omega) (by omega) HL2.out HT.out).mono ?_
      rintro e w_ ⟨rfl, hb_⟩
      go_wp2_with fail
      refine hK _ _ (fun _ => hb_) ?_
      clear hK K
      have HB_ := Lib.hid (HB.out.grow' hb_)
      clear HB
      have HB := HB_
      clear HB_
      have HR_ := Lib.hid (HR.out.grow hb_)
      clear HR
      have HR := HR_
      clear HR_
      have HT_ := Lib.hid (HT.out.grow hb_)
      clear HT
      have HT := HT_
      clear HT_
      clear hb_
      refine pl_act rfl (by first | exact wanted_none rfl | (go_simp; done) | rfl) (fun K hK => ?_)
      go_wp2_with fail
      refine (rnode_any HD1.out HD2.out HD.out _).mono ?_
      rintro e w_ ⟨rfl, hb_⟩
      go_wp2_with fail
      refine hK _ _ (fun _ => hb_) ?_
      clear hK K
      have HB_ := Lib.hid (HB.out.grow' hb_)
      clear HB
      have HB := HB_
      clear HB_
      have HR_ := Lib.hid (HR.out.grow hb_)
      clear HR
      have HR := HR_
      clear HR_
      clear hb_
      refine pl_act rfl (by first | exact wanted_none rfl | (go_simp; done) | rfl) (fun K hK => ?_)
      show wpList _ _ _ [⟨none, .store _ _ _, _, _, _, _⟩] _ _
      go_wp2_with (first | (with_reducible refine wpl_storeb (o := ⟨none, .store _ _ _, _, _, _, _⟩) rfl rfl row_id HR.out.blk rfl rfl HR.out.len HD.out.len HD.out.one ?_))
      intro w2_ hb2_ hg2_ hsz2_
      have HB_ := Lib.hid (put_below HB.out HG.out hg2_)
      have HX_ := Lib.hid (at_mk hb2_ HD.out.len)
      clear hb2_ hg2_ hsz2_ HB HR
      have HB := HB_
      have HR := HX_
      clear HB_ HX_
      try clear w_
      rename World => w_
      go_wp2_with fail
      refine hK _ _ (fun h => by cases h) ?_
      clear hK K
      refine pl_done ?_
      go_wp2_with fail
      exact ret_cell rfl row_id HR.out.blk rfl HR.out.len rfl ⟨rfl, HB.out⟩
end Go.Proofs.YtphmefhnffoafaaDoor

/- Contracts of the document's Id of a header, and of the leaves. -/
namespace Go.Proofs.YtphmefhnffoafaaDoor
open Go.RowKit Go.Shelf
set_option linter.unusedVariables false

set_option maxRecDepth 100000 in
set_option maxHeartbeats 1000000 in
theorem rhid_any (x : Hdr) {zs : List Value} (hz : Dig zs (hidB x)) (w : World) (hx : x.ok) : Calls Tryd.prog 23 #[.agg (hdrV x).toArray] w fun e w' => e = .returned (.agg zs.toArray) ∧ Below w.heap.size w w' := by
  have HR := Lib.hid (fun w => rhright_any x w hx)
  have HPP := Lib.hid (fun w h => rhput_any x w hx h)
  have HL := Lib.hid (hdrV_length hx)
  have HZ := Lib.hid hz
  have HPL := Lib.hid (fun h => putHB_len hx h)
  obtain ⟨r, hr⟩ : ∃ r, r = rightH x := ⟨_, rfl⟩
  have HRR := Lib.hid hr
  rw [← hr] at HR
  clear hr hx hz
  obtain ⟨cs, hcs⟩ : ∃ cs, cs = hdrV x := ⟨_, rfl⟩
  rw [← hcs] at HR HPP HL ⊢
  clear hcs
  obtain ⟨gh, hgh⟩ : ∃ gh, gh = w.heap.size := ⟨_, rfl⟩
  have HG := Lib.hid hgh
  go_enter Tryd.func23, Tryd.ntmps23
  go_wp2_with (first | (with_reducible refine wpl_box (o := ⟨some 1, _, _, _, _, _⟩) rfl rfl rfl ?_))
  intro w1 hb1 hbw1 hsz1
  rw [← hgh] at hb1 hbw1 hsz1 ⊢
  clear hgh
  go_wp2_with (first | (with_reducible refine wpl_alloc (o := ⟨some 2, _, _, _, _, _⟩) rfl rfl zero_id ?_))
  intro w2 hb2 hbw2 hsz2
  have HH := Lib.hid (hb1.below hbw2 (by omega))
  have HV := Lib.hid (at_mk hb2 len_id)
  have HB := Lib.hid (show Grow w w2 by rw [HG.out] at hbw1; exact Below.trans hbw1 (hbw2.mono (by have := HG.out; omega)))
  have HVG := Lib.hid (show w.heap.size ≤ gh + 1 by have := HG.out; omega)
  clear hb1 hb2 hbw1 hbw2 hsz1 hsz2
  go_wp2_with (first | (with_reducible refine wpl_loadb (o := ⟨some 3, _, _, _, _, _⟩) rfl rfl row_header HH.out rfl HL.out ?_))
  refine (HR.out _).mono ?_
  rintro e w_ ⟨rfl, hb_⟩
  have HH_ := Lib.hid (HH.out.grow hb_)
  have HV_ := Lib.hid (HV.out.grow hb_)
  have HB_ := Lib.hid (HB.out.grow' hb_)
  clear hb_ HV HB HH HR
  have HV := HV_; have HB := HB_; have HH := HH_
  clear HV_ HB_ HH_
  try clear w2
  cases r with
  | false =>
    have HZ0 := Lib.hid (show zs = zeroD.map B by have h := HZ.out.1; unfold hidB at h; rw [← HRR.out] at h; exact h)
    have T0 := Lib.hid built_id0
    rw [← HZ0.out] at T0
    go_wp2_with (first | (refine wpl_build (o := ⟨some 6, _, _, _, _, _⟩) rfl rfl T0.out ?_) | (with_reducible refine wpl_storeb (o := ⟨none, .store _ _ _, _, _, _, _⟩) rfl rfl row_id HV.out.blk rfl rfl HV.out.len HZ.out.len HZ.out.one ?_))
    intro w4 hb4 hg4 hs4
    have HB4 := Lib.hid hb4
    have HBB := Lib.hid (put_below HB.out HVG.out hg4)
    clear hb4 hg4 hs4
    go_wp2_with fail
    refine ret_cell rfl row_id HB4.out rfl HZ.out.len rfl ?_
    exact ⟨rfl, HBB.out⟩
  | true =>
    have HZ1 := Lib.hid (show Dig zs (sha (underB 11 [putHB x])) by have h := HZ.out; unfold hidB at h; rw [if_pos HRR.out.symm] at h; exact h)
    obtain ⟨n, hn⟩ : ∃ n, n = (putHB x).length := ⟨_, rfl⟩
    have HN := Lib.hid hn.symm
    have hn91 : n ≤ 91 := by rw [hn]; exact HPL.out HRR.out.symm
    clear hn
    go_wp2_with (first | (with_reducible refine wpl_loadb (o := ⟨some 8, _, _, _, _, _⟩) rfl rfl row_header (HH.out.alloc _) rfl HL.out ?_))
    generalize hw_ : World.alloc w_ _ = w1_
    obtain ⟨hX_, hb1, hs_⟩ := alloc_eq hw_
    have HO := Lib.hid (own_blk (base := w_.heap.size) hX_ (n := 1) rfl (Nat.le_refl _) (by simp [maxLen]))
    have HG1 := Lib.hid hb1
    clear hw_ hX_ hb1 hs_
    refine (HPP.out _ HRR.out.symm).mono ?_
    rintro e w2_ ⟨A4, c4, rfl, hsl, hcc, hb_⟩
    rw [HN.out] at hsl ⊢
    have HSL := Lib.hid hsl
    have HO2 := Lib.hid (own_below HO.out hb_)
    have HG2 := Lib.hid (Grow.trans _ _ _ HG1.out hb_)
    clear hsl hcc hb_ HO HG1
    go_wp2_with fail
    refine (long_any _ _ _ (putHB x) _ HSL.out (by omega)).mono ?_
    rintro e w3_ ⟨A5, c5, rfl, ho_, hb_⟩
    have HLG := Lib.hid (Sl.of_own ho_)
    have HA := Lib.hid (all_bytes (beBytes n 4 ++ putHB x))
    have HO3 := Lib.hid (own_below HO2.out hb_)
    have HG3 := Lib.hid (Grow.trans _ _ _ HG2.out hb_)
    clear ho_ hb_ HO2 HSL HG2
    go_wp2_with (at_builtin; refine wpl_apps rfl rfl el_u8 HO3.out rfl HLG.out rfl HA.out (by omega) (by omega) HG3.out.size ?_)
    intro A6 c6 w4 ho hg hA
    have hb4 : Grow w_ w4 := app_below HG3.out HO3.out hg
    have HX := Lib.hid (show Sl w4 w4.heap.size 1 A6 (1 + (4 + n)) ((underB 11 [putHB x]).map B) by
      have h := Sl.of_own ho
      rw [under_eq 11 (putHB x) n HN.out]
      try simp only [List.map_append, List.map_cons, List.map_nil, List.cons_append, List.nil_append, List.append_assoc] at h
      simp only [List.map_append, List.map_cons, List.map_nil, List.cons_append, List.nil_append, List.append_assoc]
      exact h)
    have HB_ := Lib.hid (HB.out.grow' hb4)
    have HV_ := Lib.hid (HV.out.grow hb4)
    clear HB HV ho hg hA HO3 HG3 HLG HA hb4 HH
    go_wp2_with fail
    refine (dof_any _ _ _ HZ1.out _ HX.out (by omega)).mono ?_
    rintro e w5 ⟨rfl, hb5⟩
    have HV5 := Lib.hid (HV_.out.grow hb5)
    have HB5 := Lib.hid (HB_.out.grow' hb5)
    clear hb5 HV_ HB_
    go_wp2_with (first | (with_reducible refine wpl_storeb (o := ⟨none, .store _ _ _, _, _, _, _⟩) rfl rfl row_id HV5.out.blk rfl rfl HV5.out.len HZ.out.len HZ.out.one ?_))
    intro w6 hb6 hg6 hs6
    have HB6 := Lib.hid hb6
    have HBB := Lib.hid (put_below HB5.out HVG.out hg6)
    clear hb6 hg6 hs6
    go_wp2_with fail
    refine ret_cell rfl row_id HB6.out rfl HZ.out.len rfl ?_
    exact ⟨rfl, HBB.out⟩

def okL (x : Ent) (i : Int) : Bool := rightE x && decide (i ≤ 4611686018427387904)
theorem leavesB_yes {c : List UInt8} {x : Ent} {i : Int} (h : okL x i = true) : leavesB c x i = [c, putEB x, numB i.toNat] := by
  unfold okL at h; simp only [Bool.and_eq_true, decide_eq_true_eq] at h; unfold leavesB; rw [if_pos h]
theorem leavesB_no {c : List UInt8} {x : Ent} {i : Int} (h : okL x i = false) : leavesB c x i = [] := by
  unfold leavesB; rw [if_neg]; intro hh; unfold okL at h; rw [hh.1] at h; simp at h; omega
theorem parts3 {w : World} {g : Nat} {t : TypeId} {A1 A2 A3 : Option Addr} {n1 c1 n2 c2 n3 c3 : Nat} {b1 b2 b3 : List UInt8} (hb : Blk w g t [.slice A1 n1 c1, .slice A2 n2 c2, .slice A3 n3 c3]) (h1 : Sl w w.heap.size 1 A1 n1 (b1.map B)) (k1 : n1 ≤ c1) (h2 : Sl w w.heap.size 1 A2 n2 (b2.map B)) (k2 : n2 ≤ c2) (h3 : Sl w w.heap.size 1 A3 n3 (b3.map B)) (k3 : n3 ≤ c3) :
    ∃ ps, Parts w w.heap.size (some ⟨g, 0, none⟩) 3 ps ∧ ps.map Prod.snd = [b1, b2, b3] :=
  ⟨[(.slice A1 n1 c1, b1), (.slice A2 n2 c2, b2), (.slice A3 n3 c3, b3)], parts_blk hb rfl (by intro p hp; simp only [List.mem_cons, List.not_mem_nil, or_false] at hp; rcases hp with rfl | rfl | rfl; exact part_mk h1 k1; exact part_mk h2 k2; exact part_mk h3 k3), rfl⟩
/-- A list of lists of bytes that was handed back. -/
def LS (w : World) (A : Option Addr) (n c : Nat) (ls : List (List UInt8)) : Prop := ∃ ps, Parts w w.heap.size A n ps ∧ ps.map Prod.snd = ls ∧ n ≤ c
theorem LS.grow {w w2 : World} {A : Option Addr} {n c : Nat} {ls : List (List UInt8)} (h : LS w A n c ls) (k : Grow w w2) : LS w2 A n c ls := by obtain ⟨ps, h1, h2⟩ := h; exact ⟨ps, h1.grow k, h2⟩
theorem LS.nil (w : World) : LS w none 0 0 [] := ⟨[], ⟨Sl.nil, fun p hp => by cases hp⟩, rfl, Nat.le_refl _⟩

set_option maxRecDepth 100000 in
set_option maxHeartbeats 1000000 in
theorem leaves_any (A : Option Addr) (n c : Nat) (bs : List UInt8) (x : Ent) (i : Int) (w : World) (hs : Sl w w.heap.size 1 A n (bs.map B)) (hc : n ≤ c) (hn : n ≤ 1000000) (hx : x.ok) (hi : U64 i) :
    Calls Tryd.prog 16 #[.slice A n c, .agg (entV x).toArray, .int .u64 i] w fun e w' => ∃ A' n' c', e = .returned (.tuple #[.slice A' n' c', .bool (okL x i)]) ∧ LS w' A' n' c' (leavesB bs x i) ∧ n' = (leavesB bs x i).length ∧ Grow w w' := by
  have HP := Lib.hid (fun w => eput_any x w hx)
  have HL := Lib.hid (entV_length hx)
  have HS := Lib.hid hs
  have HPL := Lib.hid (fun h => putEB_len hx h)
  obtain ⟨iN, rfl⟩ := nat_of hi.1
  have hi2 := hi.2
  obtain ⟨r, hr⟩ : ∃ r, r = rightE x := ⟨_, rfl⟩
  have HRR := Lib.hid hr
  unfold eformB at HP
  rw [← hr] at HP
  clear hr hs
  obtain ⟨cs, hcs⟩ : ∃ cs, cs = entV x := ⟨_, rfl⟩
  rw [← hcs] at HP HL ⊢
  clear hcs hi
  have HB := Lib.hid (Below.refl w.heap.size w)
  go_enter Tryd.func16, Tryd.ntmps16
  obtain ⟨gh, hgh⟩ : ∃ gh, gh = w.heap.size := ⟨_, rfl⟩
  have HG := Lib.hid hgh
  go_wp2_with (first | (with_reducible refine wpl_box (o := ⟨some 4, _, _, _, _, _⟩) rfl rfl rfl ?_))
  intro w1 hb1 hbw1 hsz1
  rw [← hgh] at hb1 hbw1 hsz1 ⊢
  clear hgh
  have HH := Lib.hid hb1
  have hg1 : Grow w w1 := by rw [HG.out] at hbw1; exact hbw1
  have HB1 := Lib.hid (HB.out.grow' hg1)
  have HS1 := Lib.hid (HS.out.grow hg1)
  clear hb1 hbw1 hsz1 hg1 HB HS
  go_wp2_with (first | (with_reducible refine wpl_loadb (o := ⟨some 12, _, _, _, _, _⟩) rfl rfl row_entry HH.out rfl HL.out ?_))
  refine (HP.out _).mono ?_
  rintro e w_ ⟨A2, c2, rfl, hs2, hc2, hb_⟩
  have HS2 := Lib.hid hs2; have HC2 := Lib.hid hc2
  have HB := Lib.hid (HB1.out.grow' hb_)
  have HS := Lib.hid (HS1.out.grow hb_)
  clear hb_ HB1 HS1 hs2 hc2 HP HH
  by_cases hok : okL x iN = true
  · have HOK := Lib.hid hok
    have hr : r = true := by rw [HRR.out]; unfold okL at hok; simp only [Bool.and_eq_true] at hok; exact hok.1
    have hi62 : iN ≤ 4611686018427387904 := by unfold okL at hok; simp only [Bool.and_eq_true, decide_eq_true_eq] at hok; omega
    clear hok
    subst hr
    simp only [if_true]
    have d1 : decide ((4611686018427387904 : Int) < (iN : Int)) = false := by simp; omega
    have HS2x := Lib.hid (show Sl w_ w_.heap.size 1 A2 (putEB x).length ((putEB x).map B) from HS2.out)
    have HC2x := Lib.hid (show (putEB x).length ≤ c2 from HC2.out)
    have hE77 := HPL.out HRR.out.symm
    obtain ⟨ne, hne⟩ : ∃ k, k = (putEB x).length := ⟨_, rfl⟩
    rw [← hne] at HS2x HC2x hE77 ⊢
    clear HS2 HC2 hne
    go_wp2_with (first | (with_reducible refine wpl_alloc (o := ⟨some 10, _, _, _, _, _⟩) rfl rfl zero_pen ?_))
    intro w3 hb3 hbw3 hsz3
    obtain ⟨g, hg⟩ : ∃ g, g = w_.heap.size := ⟨_, rfl⟩
    rw [← hg] at hb3 hsz3 hbw3 ⊢
    have HPEN := Lib.hid (PenAt.new (K := fun k => k < g) hb3 (fun k hk => ⟨by omega, by omega⟩))
    have HGG := Lib.hid hg
    have HS3 := Lib.hid (show Sl w3 g 1 A n (bs.map B) by have h := HS.out; rw [← hg] at h; exact h.below hbw3)
    have HE3 := Lib.hid (show Sl w3 g 1 A2 ne ((putEB x).map B) by have h := HS2x.out; rw [← hg] at h; exact h.below hbw3)
    have HB3 := Lib.hid (show Grow w w3 from HB.out.grow' (by rw [hg] at hbw3; exact hbw3))
    have HGW := Lib.hid (show w.heap.size ≤ g by have := HB.out.size; omega)
    clear hb3 hbw3 hsz3 hg HS HS2x HB
    try clear w_
    go_wp2_with fail
    refine (num_any g iN _ [] _ HPEN.out (by simp) (by omega)).mono ?_
    rintro e w4 ⟨rfl, hp4, hk4⟩
    have HP4 := Lib.hid hp4
    have hbl := hk4.below (Bd := g) (fun k hk => hk)
    have HS4 := Lib.hid ((HS3.out.below hbl).more (Nat.le_of_lt hp4.lt))
    have HE4 := Lib.hid ((HE3.out.below hbl).more (Nat.le_of_lt hp4.lt))
    have HB4 := Lib.hid (show Grow w w4 from Below.trans (B := w.heap.size) HB3.out (hbl.mono HGW.out))
    clear hp4 hk4 hbl HS3 HE3 HB3 HPEN
    go_wp2_with fail
    refine (bclone_any A n c bs _ HS4.out hn).mono ?_
    rintro e w5 ⟨A5, c5, rfl, ho5, hc5, hb_⟩
    have HX5 := Lib.hid (Sl.of_own ho5)
    have HC5 := Lib.hid hc5
    have HP5 := Lib.hid (HP4.out.grow hb_)
    have HE5 := Lib.hid (HE4.out.grow hb_)
    have HB5 := Lib.hid (HB4.out.grow' hb_)
    clear ho5 hc5 hb_ HP4 HE4 HB4 HS4
    go_wp2_with fail
    refine (pbytes_any g _ ([] ++ numB iN) _ HP5.out (by rw [List.nil_append]; have := numB_le (n := iN) (by omega); omega)).mono ?_
    rintro e w6 ⟨A6, c6, rfl, ho6, hc6, hb_⟩
    rw [List.nil_append] at ho6 hc6 ⊢
    have HX6 := Lib.hid (Sl.of_own ho6)
    have HC6 := Lib.hid hc6
    have HX5_ := Lib.hid (HX5.out.grow hb_)
    have HE6 := Lib.hid (HE5.out.grow hb_)
    have HB6 := Lib.hid (HB5.out.grow' hb_)
    clear ho6 hc6 hb_ HP5 HE5 HB5 HX5
    go_wp2_with fail
    generalize hw_ : World.alloc w6 _ = w7
    obtain ⟨hX, hb, hsz⟩ := alloc_eq hw_
    have HP3 := Lib.hid (parts3 hX (HX5_.out.grow hb) HC5.out (HE6.out.grow hb) HC2x.out (HX6.out.grow hb) HC6.out)
    have HB7 := Lib.hid (HB6.out.grow' hb)
    clear hX hb hsz hw_
    go_ret2
    rw [leavesB_yes HOK.out, HOK.out, Int.toNat_natCast]
    obtain ⟨ps, hp1, hp2⟩ := HP3.out
    exact ⟨_, 3, 3, rfl, ⟨ps, hp1, hp2, Nat.le_refl _⟩, rfl, HB7.out⟩
  · have hok2 : okL x iN = false := by simpa using hok
    have HOK := Lib.hid hok2
    have HE := Lib.hid (show r = false ∨ decide ((4611686018427387904 : Int) < (iN : Int)) = true by
      cases r with
      | false => exact .inl rfl
      | true =>
        right
        unfold okL at hok2; rw [← HRR.out] at hok2; simp at hok2 ⊢; omega)
    clear hok hok2 HS2 HC2
    cases r with
    | false =>
      go_wp2_with fail
      go_ret2
      rw [leavesB_no HOK.out, HOK.out]
      exact ⟨none, 0, 0, rfl, LS.nil _, rfl, HB.out⟩
    | true =>
      have d1 : decide ((4611686018427387904 : Int) < (iN : Int)) = true := by rcases HE.out with h | h; cases h; exact h
      go_wp2_with fail
      go_ret2
      rw [leavesB_no HOK.out, HOK.out]
      exact ⟨none, 0, 0, rfl, LS.nil _, rfl, HB.out⟩
set_option maxRecDepth 100000 in
set_option maxHeartbeats 1000000 in
theorem rleaves_any (A : Option Addr) (n c : Nat) (bs : List UInt8) (x : Ent) (i : Int) (w : World) (hs : Sl w w.heap.size 1 A n (bs.map B)) (hc : n ≤ c) (hn : n ≤ 1000000) (hx : x.ok) (hi : U64 i) :
    Calls Tryd.prog 17 #[.slice A n c, .agg (entV x).toArray, .int .u64 i] w fun e w' => ∃ A' n' c', e = .returned (.slice A' n' c') ∧ LS w' A' n' c' (leavesB bs x i) ∧ n' = (leavesB bs x i).length ∧ Grow w w' := by
  have HR := Lib.hid (fun w => reright_any x w hx)
  have HPP := Lib.hid (fun w h => reput_any x w hx h)
  have HL := Lib.hid (entV_length hx)
  have HS := Lib.hid hs
  obtain ⟨iN, rfl⟩ := nat_of hi.1
  have hi2 := hi.2
  obtain ⟨r, hr⟩ : ∃ r, r = rightE x := ⟨_, rfl⟩
  have HRR := Lib.hid hr
  rw [← hr] at HR
  clear hr hs
  obtain ⟨cs, hcs⟩ : ∃ cs, cs = entV x := ⟨_, rfl⟩
  rw [← hcs] at HR HPP HL ⊢
  clear hcs hi
  have HB := Lib.hid (Below.refl w.heap.size w)
  go_enter Tryd.func17, Tryd.ntmps17
  obtain ⟨gh, hgh⟩ : ∃ gh, gh = w.heap.size := ⟨_, rfl⟩
  have HG := Lib.hid hgh
  go_wp2_with (first | (with_reducible refine wpl_box (o := ⟨some 4, _, _, _, _, _⟩) rfl rfl rfl ?_))
  intro w1 hb1 hbw1 hsz1
  rw [← hgh] at hb1 hbw1 hsz1 ⊢
  clear hgh
  have HH1 := Lib.hid hb1
  have hg1 : Grow w w1 := by rw [HG.out] at hbw1; exact hbw1
  have HB1 := Lib.hid (HB.out.grow' hg1)
  have HS1 := Lib.hid (HS.out.grow hg1)
  clear hb1 hbw1 hsz1 hg1 HB HS
  go_wp2_with (first | (with_reducible refine wpl_loadb (o := ⟨some 7, _, _, _, _, _⟩) rfl rfl row_entry HH1.out rfl HL.out ?_))
  refine (HR.out _).mono ?_
  rintro e w_ ⟨rfl, hb_⟩
  have HB := Lib.hid (HB1.out.grow' hb_)
  have HS := Lib.hid (HS1.out.grow hb_)
  have HH := Lib.hid (HH1.out.grow hb_)
  clear hb_ HB1 HS1 HH1 HR
  by_cases hok : okL x iN = true
  · have HOK := Lib.hid hok
    have hr : r = true := by rw [HRR.out]; unfold okL at hok; simp only [Bool.and_eq_true] at hok; exact hok.1
    have hi62 : iN ≤ 4611686018427387904 := by unfold okL at hok; simp only [Bool.and_eq_true, decide_eq_true_eq] at hok; omega
    clear hok
    subst hr
    have d1 : decide ((4611686018427387904 : Int) < (iN : Int)) = false := by simp; omega
    go_wp2_with (first | (with_reducible refine wpl_loadb (o := ⟨some 15, _, _, _, _, _⟩) rfl rfl row_entry HH.out rfl HL.out ?_))
    refine (HPP.out _ HRR.out.symm).mono ?_
    rintro e w4 ⟨A2, c2, rfl, hs2, hc2, hb_⟩
    obtain ⟨ne, hne⟩ : ∃ k, k = (putEB x).length := ⟨_, rfl⟩
    rw [← hne] at hs2 hc2 ⊢
    have HE := Lib.hid hs2
    have HEC := Lib.hid hc2
    have HS4 := Lib.hid (HS.out.grow hb_)
    have HB4 := Lib.hid (HB.out.grow' hb_)
    clear hs2 hc2 hb_ hne HS HB HH
    go_wp2_with fail
    refine (rnum_any iN _ (by omega)).mono ?_
    rintro e w6 ⟨A6, c6, rfl, ho6, hc6, hb_⟩
    have HX6 := Lib.hid (Sl.of_own ho6)
    have HC6 := Lib.hid hc6
    have HE6 := Lib.hid (HE.out.grow hb_)
    have HS6 := Lib.hid (HS4.out.grow hb_)
    have HB6 := Lib.hid (HB4.out.grow' hb_)
    clear ho6 hc6 hb_ HE HS4 HB4
    go_wp2_with fail
    generalize hw_ : World.alloc w6 _ = w7
    obtain ⟨hX, hb, hsz⟩ := alloc_eq hw_
    have HP3 := Lib.hid (parts3 hX (HS6.out.grow hb) hc (HE6.out.grow hb) HEC.out (HX6.out.grow hb) HC6.out)
    have HB7 := Lib.hid (HB6.out.grow' hb)
    clear hX hb hsz hw_
    go_ret
    rw [leavesB_yes HOK.out, Int.toNat_natCast]
    obtain ⟨ps, hp1, hp2⟩ := HP3.out
    exact ⟨_, 3, 3, rfl, ⟨ps, hp1, hp2, Nat.le_refl _⟩, rfl, HB7.out⟩
  · have hok2 : okL x iN = false := by simpa using hok
    have HOK := Lib.hid hok2
    have HE := Lib.hid (show r = false ∨ decide ((4611686018427387904 : Int) < (iN : Int)) = true by
      cases r with
      | false => exact .inl rfl
      | true =>
        right
        unfold okL at hok2; rw [← HRR.out] at hok2; simp at hok2 ⊢; omega)
    clear hok hok2
    cases r with
    | false =>
      go_wp2_with fail
      go_ret
      rw [leavesB_no HOK.out]
      exact ⟨none, 0, 0, rfl, LS.nil _, rfl, HB.out⟩
    | true =>
      have d1 : decide ((4611686018427387904 : Int) < (iN : Int)) = true := by rcases HE.out with h | h; cases h; exact h
      go_wp2_with fail
      go_ret
      rw [leavesB_no HOK.out]
      exact ⟨none, 0, 0, rfl, LS.nil _, rfl, HB.out⟩
end Go.Proofs.YtphmefhnffoafaaDoor

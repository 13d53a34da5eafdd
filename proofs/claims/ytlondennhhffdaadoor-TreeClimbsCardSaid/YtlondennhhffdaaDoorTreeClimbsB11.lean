/- Layer 5: the root, in the program and in the document's answer. -/
import Derived.Test.YtlondennhhffdaaDoorTreeClimbsB7
import Derived.Test.YtlondennhhffdaaDoorTreeClimbsB6
import Derived.Test.YtlondennhhffdaaDoorTreeClimbsB10
/- Layer 5: the root, in the program and in the document's answer. -/
namespace Go.Proofs.YtlondennhhffdaaDoor
open Go.RowKit Go.Shelf
set_option linter.unusedVariables false

def rootB (l : List (List UInt8)) : List UInt8 :=
  match l with
  | [] => noneB
  | [x] => leafB x
  | x :: y :: r => nodeB (rootB ((x :: y :: r).take (halfN (x :: y :: r).length))) (rootB ((x :: y :: r).drop (halfN (x :: y :: r).length)))
termination_by l.length
decreasing_by
  · rw [List.length_take]; have := halfN_lt (n := (x :: y :: r).length) (by simp); omega
  · rw [List.length_drop]; have := halfN_pos (x :: y :: r).length; simp only [List.length_cons] at *; omega
theorem rootB_nil : rootB [] = noneB := by rw [rootB]
theorem rootB_one (x : List UInt8) : rootB [x] = leafB x := by rw [rootB]
theorem rootB_more (l : List (List UInt8)) (h : 2 ≤ l.length) : rootB l = nodeB (rootB (l.take (halfN l.length))) (rootB (l.drop (halfN l.length))) := by
  match l, h with
  | x :: y :: r, _ => rw [rootB]
theorem rootB_len (l : List (List UInt8)) : (rootB l).length = 32 := by
  match l with
  | [] => rw [rootB_nil]; exact noneB_len
  | [x] => rw [rootB_one]; exact leafB_len x
  | x :: y :: r => rw [rootB_more _ (by simp)]; exact nodeB_len _ _
theorem dig_root (l : List (List UInt8)) : ∃ v, Dig v (rootB l) := ⟨(rootB l).map B, rfl, rootB_len l⟩

theorem Parts.to1 {w : World} {Bd n k : Nat} {A : Option Addr} {ps : List (Value × List UInt8)} (h : Parts w Bd A n ps) (hk : k ≤ n) : Parts w Bd A k (ps.take k) :=
  ⟨by rw [List.map_take]; exact h.1.to1 hk, fun p hp => h.2 p (List.mem_of_mem_take hp)⟩
theorem Parts.from1 {w : World} {Bd n k c : Nat} {A : Option Addr} {ps : List (Value × List UInt8)} (h : Parts w Bd A n ps) (hk : k ≤ n) (hc : n ≤ c) : Parts w Bd (if c = k then A else Option.map (fun x => x.add k) A) (n - k) (ps.drop k) :=
  ⟨by rw [List.map_drop]; exact h.1.from1 hk hc, fun p hp => h.2 p (List.mem_of_mem_drop hp)⟩
theorem Parts.none_ (w : World) : Parts w w.heap.size none 0 [] := ⟨Sl.nil, fun p hp => by cases hp⟩
attribute [local irreducible] leafB nodeB noneB

set_option maxRecDepth 100000 in
set_option maxHeartbeats 1000000 in
theorem root_any : ∀ (N n c : Nat) (A : Option Addr) (ps : List (Value × List UInt8)) (xs : List Value) (w : World), n ≤ N → Dig xs (rootB (ps.map Prod.snd)) → Parts w w.heap.size A n ps → n ≤ c → n ≤ 16777216 → (∀ p ∈ ps, p.2.length ≤ 1000000) → Tabs w →
    Calls Tryd.prog 38 #[.slice A n c] w fun e w' => e = .returned (.agg xs.toArray) ∧ Below w.heap.size w w' := by
  intro N
  induction N with
  | zero =>
    intro n c A ps xs w hnN hx hp hc hn hl ht
    obtain rfl : n = 0 := by omega
    have HT := Lib.hid ht
    have HD := Lib.hid (show Dig xs (sha (underB 0 [])) by have h := hx; obtain rfl : ps = [] := List.eq_nil_of_length_eq_zero hp.len; rw [List.map_nil, rootB_nil] at h; unfold noneB at h; exact h)
    have HB := Lib.hid (Below.refl w.heap.size w)
    have HG := Lib.hid (Nat.le_refl w.heap.size)
    clear ht hx hp hl
    go_enter Tryd.func38, Tryd.ntmps38
    go_wp2_with (first | (with_reducible refine wpl_alloc (o := ⟨some 2, _, _, _, _, _⟩) rfl rfl zero_id ?_))
    intro w2_ hb2_ hb_ hsz2_
    have HX_ := Lib.hid (at_mk hb2_ len_id)
    clear hb2_ hsz2_
    have HB_ := Lib.hid (HB.out.grow' hb_)
    clear HB
    have HB := HB_
    clear HB_
    have HT_ := Lib.hid (HT.out.grow hb_)
    clear HT
    have HT := HT_
    clear HT_
    have HR := HX_
    clear hb_ HX_
    try clear w_
    rename World => w_
    have HP := Lib.hid (show ∃ ps, Parts w_ w_.heap.size none 0 ps ∧ ps.map Prod.snd = [] from ⟨[], Parts.none_ w_, rfl⟩)
    go_wp2_with fail
    refine (punder_any (m := 0) HD.out HP.out (by omega) (by intro l hl; cases hl) HT.out).mono ?_
    rintro e w_ ⟨rfl, hb_⟩
    have HB_ := Lib.hid (HB.out.grow' hb_)
    clear HB
    have HB := HB_
    clear HB_
    have HR_ := Lib.hid (HR.out.grow hb_)
    clear HR
    have HR := HR_
    clear HR_
    clear hb_
    go_wp2_with (first | (with_reducible refine wpl_storeb (o := ⟨none, .store _ _ _, _, _, _, _⟩) rfl rfl row_id HR.out.blk rfl rfl HR.out.len HD.out.len HD.out.one ?_))
    intro w2_ hb2_ hg2_ hsz2_
    have HB_ := Lib.hid (put_below HB.out HG.out hg2_)
    have HX_ := Lib.hid (at_mk hb2_ HD.out.len)
    clear hb2_ hg2_ hsz2_ HB HR
    have HB := HB_
    have HR := HX_
    clear HB_ HX_
    try clear w_
    rename World => w_
    go_wp2_with fail
    exact ret_cell rfl row_id HR.out.blk rfl HR.out.len rfl ⟨rfl, HB.out⟩
  | succ N ih =>
    intro n c A ps xs w hnN hx hp hc hn hl ht
    by_cases hz : n ≤ N
    · exact ih n c A ps xs w hz hx hp hc hn hl ht
    have hnN1 : n = N + 1 := by omega
    have HT := Lib.hid ht; have HP := Lib.hid hp; have HL := Lib.hid hl
    have HN := Lib.hid hp.len
    have HB := Lib.hid (Below.refl w.heap.size w)
    have HG := Lib.hid (Nat.le_refl w.heap.size)
    have HIH := Lib.hid ih
    by_cases h1 : N = 0
    · subst h1
      obtain rfl : n = 1 := by omega
      obtain ⟨p, rfl⟩ : ∃ p, ps = [p] := by
        have := hp.len
        match ps, this with
        | [p], _ => exact ⟨p, rfl⟩
      have HD := Lib.hid (show Dig xs (leafB p.2) by have h := hx; rw [List.map_cons, List.map_nil, rootB_one] at h; exact h)
      obtain ⟨b, off, A2, c2, bs, rfl, hps, hcell, hcc, hs⟩ := hp.at_ (show 0 < 1 by omega)
      obtain rfl : p = (.slice A2 bs.length c2, bs) := by simpa using hps
      have HS := Lib.hid hs
      have hbl := hl _ (List.mem_singleton.2 rfl)
      rw [Nat.add_zero] at hcell
      have HC := Lib.hid hcell
      clear ht hx hp hl hs ih hps hcell hz hnN1
      go_enter Tryd.func38, Tryd.ntmps38
      go_wp2_with (first | (with_reducible refine wpl_alloc (o := ⟨some 2, _, _, _, _, _⟩) rfl rfl zero_id ?_))
      intro w2_ hb2_ hb_ hsz2_
      have HX_ := Lib.hid (at_mk hb2_ len_id)
      clear hb2_ hsz2_
      have HB_ := Lib.hid (HB.out.grow' hb_)
      clear HB
      have HB := HB_
      clear HB_
      have HT_ := Lib.hid (HT.out.grow hb_)
      clear HT
      have HT := HT_
      clear HT_
      have HS_ := Lib.hid (HS.out.grow hb_)
      clear HS
      have HS := HS_
      clear HS_
      have HR := HX_
      clear hb_ HX_
      try clear w_
      rename World => w_
      have hcell := bcell HB.out HC.out
      go_wp2_with fail
      refine (leaf_any _ _ _ _ HD.out _ HS.out hcc hbl HT.out).mono ?_
      rintro e w_ ⟨rfl, hb_⟩
      have HB_ := Lib.hid (HB.out.grow' hb_)
      clear HB
      have HB := HB_
      clear HB_
      have HR_ := Lib.hid (HR.out.grow hb_)
      clear HR
      have HR := HR_
      clear HR_
      clear hb_
      clear hcell
      go_wp2_with (first | (with_reducible refine wpl_storeb (o := ⟨none, .store _ _ _, _, _, _, _⟩) rfl rfl row_id HR.out.blk rfl rfl HR.out.len HD.out.len HD.out.one ?_))
      intro w2_ hb2_ hg2_ hsz2_
      have HB_ := Lib.hid (put_below HB.out HG.out hg2_)
      have HX_ := Lib.hid (at_mk hb2_ HD.out.len)
      clear hb2_ hg2_ hsz2_ HB HR
      have HB := HB_
      have HR := HX_
      clear HB_ HX_
      try clear w_
      rename World => w_
      go_wp2_with fail
      exact ret_cell rfl row_id HR.out.blk rfl HR.out.len rfl ⟨rfl, HB.out⟩
    · have h2 : 2 ≤ n := by omega
      obtain ⟨k, hk⟩ : ∃ k, k = halfN n := ⟨_, rfl⟩
      have hk1 : 1 ≤ k := by rw [hk]; exact halfN_pos n
      have hk2 : k < n := by rw [hk]; exact halfN_lt h2
      have hkn : k ≤ n := Nat.le_of_lt hk2
      have hkc : k ≤ c := by omega
      have HK := Lib.hid hk
      have hkN : k ≤ N := by omega
      have hdN : n - k ≤ N := by omega
      have hN1 : N + 1 ≤ n := by omega
      obtain ⟨xs1, hd1⟩ := dig_root ((ps.take k).map Prod.snd)
      obtain ⟨xs2, hd2⟩ := dig_root ((ps.drop k).map Prod.snd)
      have HD1 := Lib.hid hd1; have HD2 := Lib.hid hd2
      have HD := Lib.hid (show Dig xs (nodeB (rootB ((ps.take k).map Prod.snd)) (rootB ((ps.drop k).map Prod.snd))) by
        have h := hx
        rw [rootB_more _ (by rw [List.length_map, HN.out]; exact h2), List.length_map, HN.out, ← hk, ← List.map_take, ← List.map_drop] at h
        exact h)
      have z1 : ((n : Int) == 0) = false := by simp; omega
      have z2 : ((n : Int) == 1) = false := by simp; omega
      have z3 : decide ((n : Int) = 0) = false := by simp; omega
      have z4 : decide ((n : Int) = 1) = false := by simp; omega
      have z5 : (n == 0) = false := by simp; omega
      have z6 : (n == 1) = false := by simp; omega
      have z7 : decide (n = 0) = false := by simp; omega
      have z8 : decide (n = 1) = false := by simp; omega
      have HL1 := Lib.hid (show ∀ p ∈ ps.take k, p.2.length ≤ 1000000 from fun p hp => hl p (List.mem_of_mem_take hp))
      have HL2 := Lib.hid (show ∀ p ∈ ps.drop k, p.2.length ≤ 1000000 from fun p hp => hl p (List.mem_of_mem_drop hp))
      clear ht hx hp hl ih hd1 hd2 hk hnN1
      go_enter Tryd.func38, Tryd.ntmps38
      go_wp2_with (first | (with_reducible refine wpl_alloc (o := ⟨some 2, _, _, _, _, _⟩) rfl rfl zero_id ?_))
      intro w2_ hb2_ hb_ hsz2_
      have HX_ := Lib.hid (at_mk hb2_ len_id)
      clear hb2_ hsz2_
      have HB_ := Lib.hid (HB.out.grow' hb_)
      clear HB
      have HB := HB_
      clear HB_
      have HT_ := Lib.hid (HT.out.grow hb_)
      clear HT
      have HT := HT_
      clear HT_
      have HP_ := Lib.hid (HP.out.grow hb_)
      clear HP
      have HP := HP_
      clear HP_
      have HR := HX_
      clear hb_ HX_
      try clear w_
      rename World => w_
      go_wp2_with fail
      refine (first_any n _ h2 hn).mono ?_
      rintro e w1 ⟨rfl, rfl⟩
      rw [← HK.out]
      try go_wp2_with fail
      repeat' (first | (with_reducible refine wp_plan (id := 7) Grow [0,0,0,3,0,0,0,3,3,3] (.get 0 (.get 1 (.get 2 (.get 4 (.get 5 (.get 6 (.act 3 (.act 7 (.act 8 (.act 9 .done)))))))))) (by kernel_rfl) (by kernel_rfl) Grow.refl Grow.trans ?_) | go_values | go_skip | go_guarded | go_step | go_upon | go_back)
      intro w_ hd_
      have hb_ := hd_.grow
      have HB_ := Lib.hid (HB.out.grow' hb_)
      clear HB
      have HB := HB_
      clear HB_
      have HR_ := Lib.hid (HR.out.grow hb_)
      clear HR
      have HR := HR_
      clear HR_
      have HT_ := Lib.hid (HT.out.grow hb_)
      clear HT
      have HT := HT_
      clear HT_
      have HP_ := Lib.hid (HP.out.grow hb_)
      clear HP
      have HP := HP_
      clear HP_
      clear hb_ hd_
      repeat (first | (refine pl_calm rfl rfl (by first | exact wanted_none rfl | (go_simp; done) | rfl) (fun w_ => by first | (go_simp; rfl) | (go_simp; done) | rfl) (fun K hK => ?_); go_simp; refine hK _ _ ?_; clear hK K) | (refine pl_skip rfl (by first | (go_simp; done) | rfl) (fun K hK => ?_); go_simp; refine hK _ _ ?_; clear hK K) | (refine pl_skipa rfl (by first | (go_simp; done) | rfl) (fun K hK => ?_); go_simp; refine hK _ _ ?_; clear hK K))
      have HP1 := Lib.hid (HP.out.to1 hkn)
      have HP2 := Lib.hid (HP.out.from1 hkn hc)
      generalize (if c = k then A else Option.map (fun x => x.add k) A) = A2 at HP2 ⊢
      refine pl_act rfl (by first | exact wanted_none rfl | (go_simp; done) | rfl) (fun K hK => ?_)
      go_wp2_with fail
      refine (HIH.out k c A (ps.take k) xs1 _ (by omega) HD1.out HP1.out hkc (by omega) HL1.out HT.out).mono ?_
      rintro e w_ ⟨rfl, hb_⟩
      go_wp2_with fail
      refine hK _ _ (fun _ => hb_) ?_
      clear hK K
      have HB_ := Lib.hid (HB.out.grow' hb_)
      clear HB
      have HB := HB_
      clear HB_
      have HR_ := Lib.hid (HR.out.grow hb_)
      clear HR
      have HR := HR_
      clear HR_
      have HT_ := Lib.hid (HT.out.grow hb_)
      clear HT
      have HT := HT_
      clear HT_
      have HP2_ := Lib.hid (HP2.out.grow hb_)
      clear HP2
      have HP2 := HP2_
      clear HP2_
      clear hb_
      refine pl_act rfl (by first | exact wanted_none rfl | (go_simp; done) | rfl) (fun K hK => ?_)
      go_wp2_with fail
      refine (HIH.out (n - k) (c - k) A2 (ps.drop k) xs2 _ (by omega) HD2.out HP2.out (by omega) (by omega) HL2.out HT.out).mono ?_
      rintro e w_ ⟨rfl, hb_⟩
      go_wp2_with fail
      refine hK _ _ (fun _ => hb_) ?_
      clear hK K
      have HB_ := Lib.hid (HB.out.grow' hb_)
      clear HB
      have HB := HB_
      clear HB_
      have HR_ := Lib.hid (HR.out.grow hb_)
      clear HR
      have HR := HR_
      clear HR_
      have HT_ := Lib.hid (HT.out.grow hb_)
      clear HT
      have HT := HT_
      clear HT_
      clear hb_
      refine pl_act rfl (by first | exact wanted_none rfl | (go_simp; done) | rfl) (fun K hK => ?_)
      go_wp2_with fail
      refine (node_any HD1.out HD2.out HD.out _ HT.out).mono ?_
      rintro e w_ ⟨rfl, hb_⟩
      go_wp2_with fail
      refine hK _ _ (fun _ => hb_) ?_
      clear hK K
      have HB_ := Lib.hid (HB.out.grow' hb_)
      clear HB
      have HB := HB_
      clear HB_
      have HR_ := Lib.hid (HR.out.grow hb_)
      clear HR
      have HR := HR_
      clear HR_
      clear hb_
      refine pl_act rfl (by first | exact wanted_none rfl | (go_simp; done) | rfl) (fun K hK => ?_)
      show wpList _ _ _ [⟨none, .store _ _ _, _, _, _, _⟩] _ _
      go_wp2_with (first | (with_reducible refine wpl_storeb (o := ⟨none, .store _ _ _, _, _, _, _⟩) rfl rfl row_id HR.out.blk rfl rfl HR.out.len HD.out.len HD.out.one ?_))
      intro w2_ hb2_ hg2_ hsz2_
      have HB_ := Lib.hid (put_below HB.out HG.out hg2_)
      have HX_ := Lib.hid (at_mk hb2_ HD.out.len)
      clear hb2_ hg2_ hsz2_ HB HR
      have HB := HB_
      have HR := HX_
      clear HB_ HX_
      try clear w_
      rename World => w_
      go_wp2_with fail
      refine hK _ _ (fun h => by cases h) ?_
      clear hK K
      refine pl_done ?_
      go_wp2_with fail
      exact ret_cell rfl row_id HR.out.blk rfl HR.out.len rfl ⟨rfl, HB.out⟩
end Go.Proofs.YtlondennhhffdaaDoor

/- Layer 5, the document's answer: a digest's bytes, a leaf, a node, the root. -/
namespace Go.Proofs.YtlondennhhffdaaDoor
open Go.RowKit Go.Shelf
set_option linter.unusedVariables false

theorem rid_any {xs : List Value} {d : List UInt8} (hx : Dig xs d) (w : World) :
    Calls Tryd.prog 74 #[.agg xs.toArray] w fun e w' => ∃ A' c', e = .returned (.slice A' 32 c') ∧ Sl w' w'.heap.size 1 A' 32 (d.map B) ∧ 32 ≤ c' ∧ Below w.heap.size w w' := by
  have HD := Lib.hid hx
  have HB := Lib.hid (Below.refl w.heap.size w)
  clear hx
  go_enter Tryd.func74, Tryd.ntmps74
  go_wp2_with (first | (with_reducible refine wpl_box (o := ⟨some 1, _, _, _, _, _⟩) rfl rfl rfl ?_))
  intro w2_ hb2_ hb_ hsz2_
  have HX_ := Lib.hid (at_mk hb2_ HD.out.len)
  clear hb2_ hsz2_
  have HB_ := Lib.hid (HB.out.grow' hb_)
  clear HB
  have HB := HB_
  clear HB_
  have HX := HX_
  clear hb_ HX_
  try clear w_
  rename World => w_
  go_wp2_with fail
  go_loopw [3, 4] (fun v i wr => ∃ k : Nat, ∃ A' c', k ≤ 32 ∧ i = .int .i64 k ∧ v = .slice A' k c' ∧ Hid (wr.ownsRow (w.heap.size + 1) 5 1 (.slice A' k c') k (xs.take k)) ∧ Hid (Below w.heap.size w wr) ∧ Hid (At wr w.heap.size 26 32 xs)) (fun _ i _ => 32 - (intOf i).toNat)
  case atStart => exact ⟨0, none, 0, by omega, rfl, rfl, Lib.hid (by simpa using World.ownsRow_nil _ _ _ _), HB, HX⟩
  case round =>
    obtain ⟨k, A3, c3, hk, rfl, rfl, hown, hbw, hat⟩ := hrel
    clear HB HX
    by_cases hlt : k < 32
    · obtain ⟨x, hx, _⟩ := HD.out.at_ hlt
      have hc := hat.out.blk.at_ hx
      have HXK := Lib.hid hx
      clear hx
      go_wp2_with (at_builtin; refine wpl_app1 rfl rfl el_u8 hown.out rfl (m := 1) rfl rfl ?_ ?_ ?_ ?_ ?_)
      · rfl
      · omega
      · omega
      · have := hat.out.lt; omega
      · intro A4 c4 w4 ho hg hA
        have HO := Lib.hid (show w4.ownsRow (w.heap.size + 1) 5 1 (.slice A4 (k + 1) c4) (k + 1) (xs.take (k + 1)) by rw [List.take_add_one, HXK.out]; exact ho)
        have HB := Lib.hid (show Below w.heap.size w w4 from hbw.out.grown hg hbw.out.size (fun g hg => by have := own_from hown.out g hg; omega))
        have HX := Lib.hid (at_mk (hat.out.blk.grown hg (by intro hh; have := own_from hown.out _ hh.symm; omega)) hat.out.len)
        clear ho hg hA hc
        go_wp2_with fail
        go_roundw
        case rel => exact ⟨k + 1, A4, c4, by omega, by go_num, rfl, HO, HB, HX⟩
        case measure => simp [intOf]; omega
    · obtain rfl : k = 32 := by omega
      have e : xs.take 32 = d.map B := by rw [List.take_of_length_le (by rw [HD.out.len]; exact Nat.le_refl _), HD.out.1]
      have HO := Lib.hid (e ▸ hown.out)
      clear e
      have HC := Lib.hid (own_form hown.out (by omega))
      go_wp2_with fail
      go_ret
      exact ⟨A3, c3, rfl, Sl.of_own HO.out, (by obtain ⟨g, _, _, _, h⟩ := HC.out; exact h), hbw.out⟩

theorem rid_n {xs : List Value} {d : List UInt8} (hx : Dig xs d) (w : World) :
    Calls Tryd.prog 74 #[.agg xs.toArray] w fun e w' => ∃ A' c', e = .returned (.slice A' 32 c') ∧ Sl w' w'.heap.size 1 A' 32 (d.map B) ∧ 32 ≤ c' ∧ Below w.heap.size w w' := rid_any hx w

/-- A mark laid as a row, a length and bytes appended behind it. -/
theorem under1' (m : UInt8) (a : List UInt8) : underB m [a] = [m] ++ (beBytes a.length 4 ++ a) := by
  have : underB m [] = [m] := by unfold underB; simp
  rw [show [a] = [] ++ [a] from rfl, underB_snoc, this]
theorem under2' (m : UInt8) (a b : List UInt8) : underB m [a, b] = [m] ++ (beBytes a.length 4 ++ a) ++ (beBytes b.length 4 ++ b) := by
  rw [show [a, b] = [a] ++ [b] from rfl, underB_snoc, under1']
theorem under_eq (m : UInt8) (bs : List UInt8) (n : Nat) (h : bs.length = n) : (underB m [bs]).map B = [B m] ++ (beBytes n 4 ++ bs).map B := by
  rw [under1', h]; simp only [List.map_append, List.map_cons, List.map_nil]

set_option maxRecDepth 100000 in
set_option maxHeartbeats 1000000 in
theorem rleaf_any (A : Option Addr) (n c : Nat) (bs : List UInt8) {xs : List Value} (hx : Dig xs (leafB bs)) (w : World) (hs : Sl w w.heap.size 1 A n (bs.map B)) (hn : n ≤ 1000000) :
    Calls Tryd.prog 63 #[.slice A n c] w fun e w' => e = .returned (.agg xs.toArray) ∧ Below w.heap.size w w' := by
  have HS := Lib.hid hs
  have HD := Lib.hid (show Dig xs (sha (underB 1 [bs])) by unfold leafB at hx; exact hx)
  have HB := Lib.hid (Below.refl w.heap.size w)
  have HG := Lib.hid (Nat.le_refl w.heap.size)
  have HL := Lib.hid (show bs.length = n by have := hs.len; simpa using this)
  clear hs hx
  go_enter Tryd.func63, Tryd.ntmps63
  go_wp2_with (first | (with_reducible refine wpl_alloc (o := ⟨some 2, _, _, _, _, _⟩) rfl rfl zero_id ?_))
  intro w2_ hb2_ hb_ hsz2_
  have HX_ := Lib.hid (at_mk hb2_ len_id)
  clear hb2_ hsz2_
  have HB_ := Lib.hid (HB.out.grow' hb_)
  clear HB
  have HB := HB_
  clear HB_
  have HS_ := Lib.hid (HS.out.grow hb_)
  clear HS
  have HS := HS_
  clear HS_
  have HR := HX_
  clear hb_ HX_
  try clear w_
  rename World => w_
  go_wp2_with fail
  generalize hw_ : World.alloc w_ _ = w1_
  obtain ⟨hX_, hb1, hs_⟩ := alloc_eq hw_
  have HO := Lib.hid (own_blk (base := w_.heap.size) hX_ (n := 1) rfl (Nat.le_refl _) (by simp [maxLen]))
  have HG1 := Lib.hid hb1
  have HS1 := Lib.hid (HS.out.grow hb1)
  clear hw_ hX_ hb1 hs_
  refine (long_any _ _ _ bs _ HS1.out (by omega)).mono ?_
  rintro e w2_ ⟨A5, c5, rfl, ho_, hb_⟩
  have HLG := Lib.hid (Sl.of_own ho_)
  have HA := Lib.hid (all_bytes (beBytes n 4 ++ bs))
  have HO2 := Lib.hid (own_below HO.out hb_)
  have HG2 := Lib.hid (Grow.trans _ _ _ HG1.out hb_)
  clear ho_ hb_ HO HS1 HG1
  go_wp2_with (at_builtin; refine wpl_apps rfl rfl el_u8 HO2.out rfl HLG.out rfl HA.out (by omega) (by omega) HG2.out.size ?_)
  intro A6 c6 w4 ho hg hA
  have hb4 : Grow w_ w4 := app_below HG2.out HO2.out hg
  have HX := Lib.hid (show Sl w4 w4.heap.size 1 A6 (1 + (4 + n)) ((underB 1 [bs]).map B) by
    have h := Sl.of_own ho
    rw [under_eq 1 bs n HL.out]
    try simp only [List.map_append, List.map_cons, List.map_nil, List.cons_append, List.nil_append, List.append_assoc] at h
    simp only [List.map_append, List.map_cons, List.map_nil, List.cons_append, List.nil_append, List.append_assoc]
    exact h)
  have HB_ := Lib.hid (HB.out.grow' hb4)
  have HR_ := Lib.hid (HR.out.grow hb4)
  clear HB HR ho hg hA HO2 HG2 HLG HA hb4
  have HB := HB_
  have HR := HR_
  clear HB_ HR_
  try clear w_
  rename World => w_
  go_wp2_with fail
  refine (dof_any _ _ _ HD.out _ HX.out (by omega)).mono ?_
  rintro e w_ ⟨rfl, hb_⟩
  have HB_ := Lib.hid (HB.out.grow' hb_)
  clear HB
  have HB := HB_
  clear HB_
  have HR_ := Lib.hid (HR.out.grow hb_)
  clear HR
  have HR := HR_
  clear HR_
  clear hb_
  go_wp2_with (first | (with_reducible refine wpl_storeb (o := ⟨none, .store _ _ _, _, _, _, _⟩) rfl rfl row_id HR.out.blk rfl rfl HR.out.len HD.out.len HD.out.one ?_))
  intro w2_ hb2_ hg2_ hsz2_
  have HB_ := Lib.hid (put_below HB.out HG.out hg2_)
  have HX_ := Lib.hid (at_mk hb2_ HD.out.len)
  clear hb2_ hg2_ hsz2_ HB HR
  have HB := HB_
  have HR := HX_
  clear HB_ HX_
  try clear w_
  rename World => w_
  go_wp2_with fail
  exact ret_cell rfl row_id HR.out.blk rfl HR.out.len rfl ⟨rfl, HB.out⟩

set_option maxRecDepth 100000 in
set_option maxHeartbeats 1000000 in
theorem rnode_any {a b : List UInt8} {ys zs xs : List Value} (ha : Dig ys a) (hb : Dig zs b) (hx : Dig xs (nodeB a b)) (w : World) :
    Calls Tryd.prog 65 #[.agg ys.toArray, .agg zs.toArray] w fun e w' => e = .returned (.agg xs.toArray) ∧ Below w.heap.size w w' := by
  have HA := Lib.hid ha; have HBB := Lib.hid hb
  have HD := Lib.hid (show Dig xs (sha (underB 2 [a, b])) by unfold nodeB at hx; exact hx)
  have HB := Lib.hid (Below.refl w.heap.size w)
  clear ha hb hx
  go_enter Tryd.func65, Tryd.ntmps65
  go_wp2_with (first | (with_reducible refine wpl_box (o := ⟨some 2, _, _, _, _, _⟩) rfl rfl rfl ?_))
  intro w2_ hb2_ hb_ hsz2_
  have HX_ := Lib.hid (at_mk hb2_ HA.out.len)
  clear hb2_ hsz2_
  have HB_ := Lib.hid (HB.out.grow' hb_)
  clear HB
  have HB := HB_
  clear HB_
  have HV1 := HX_
  clear hb_ HX_
  try clear w_
  rename World => w_
  go_wp2_with (first | (with_reducible refine wpl_box (o := ⟨some 3, _, _, _, _, _⟩) rfl rfl rfl ?_))
  intro w2_ hb2_ hb_ hsz2_
  have HX_ := Lib.hid (at_mk hb2_ HBB.out.len)
  clear hb2_ hsz2_
  have HG_ := Lib.hid HB.out.size
  have HB_ := Lib.hid (HB.out.grow' hb_)
  clear HB
  have HB := HB_
  clear HB_
  have HV1_ := Lib.hid (HV1.out.grow hb_)
  clear HV1
  have HV1 := HV1_
  clear HV1_
  generalize hg_ : w_.heap.size = g2 at HX_ HG_ ⊢
  clear hg_
  have HV2_g := HG_
  clear HG_
  have HV2 := HX_
  clear hb_ HX_
  try clear w_
  rename World => w_
  go_wp2_with (first | (with_reducible refine wpl_alloc (o := ⟨some 4, _, _, _, _, _⟩) rfl rfl zero_id ?_))
  intro w2_ hb2_ hb_ hsz2_
  have HX_ := Lib.hid (at_mk hb2_ len_id)
  clear hb2_ hsz2_
  have HG_ := Lib.hid HB.out.size
  have HB_ := Lib.hid (HB.out.grow' hb_)
  clear HB
  have HB := HB_
  clear HB_
  have HV1_ := Lib.hid (HV1.out.grow hb_)
  clear HV1
  have HV1 := HV1_
  clear HV1_
  have HV2_ := Lib.hid (HV2.out.grow hb_)
  clear HV2
  have HV2 := HV2_
  clear HV2_
  generalize hg_ : w_.heap.size = gr at HX_ HG_ ⊢
  clear hg_
  have HR_g := HG_
  clear HG_
  have HR := HX_
  clear hb_ HX_
  try clear w_
  rename World => w_
  have HG := HR_g
  have ha1 := alloc_new w_ #[.int .u8 2] 5
  have HO := Lib.hid (World.ownsRow_lit (base := w_.heap.size) (e := 5) (size := 1) w_ #[.int .u8 2] 1 (Nat.le_refl _) (by simp [maxLen]) rfl)
  have HV1A := Lib.hid (HV1.out.grow ha1.2.1)
  have HG1 := Lib.hid ha1.2.1
  clear ha1
  go_wp2_with (first | (with_reducible refine wpl_loadb (o := ⟨_, .load _ _, _, _, _, _⟩) rfl rfl row_id HV1A.out.blk rfl HV1A.out.len ?_) | (with_reducible refine wpl_loadw (o := ⟨_, .load _ _, _, _, _, _⟩) (by first | rfl | (go_simp; done) | fail) rfl row_id HV1A.out.blk rfl HV1A.out.len ?_))
  refine (rid_n HA.out _).mono ?_
  rintro e w2_ ⟨A3, c3, rfl, hs3, hc3, hb_⟩
  have HS3 := Lib.hid hs3
  have HO2 := Lib.hid (own_below HO.out hb_)
  have HG2 := Lib.hid (Grow.trans _ _ _ HG1.out hb_)
  clear hs3 hb_ HO HG1 HV1A
  go_wp2_with fail
  refine (long_any _ _ _ a _ HS3.out (by omega)).mono ?_
  rintro e w3_ ⟨A5, c5, rfl, ho_, hb_⟩
  have HLG := Lib.hid (Sl.of_own ho_)
  have HAB := Lib.hid (all_bytes (beBytes 32 4 ++ a))
  have HO3 := Lib.hid (own_below HO2.out hb_)
  have HG3 := Lib.hid (Grow.trans _ _ _ HG2.out hb_)
  clear ho_ hb_ HO2 HS3 HG2
  go_wp2_with (at_builtin; refine wpl_apps rfl rfl el_u8 HO3.out rfl HLG.out rfl HAB.out (by omega) (by omega) HG3.out.size ?_)
  intro A6 c6 w4 ho hg hA
  have HG4 := Lib.hid (show Grow w_ w4 from app_below HG3.out HO3.out hg)
  have HO4 := Lib.hid ho
  have HV2A := Lib.hid (HV2.out.grow HG4.out)
  clear ho hg hA HO3 HG3 HLG HAB
  go_wp2_with (first | (with_reducible refine wpl_loadb (o := ⟨_, .load _ _, _, _, _, _⟩) rfl rfl row_id HV2A.out.blk rfl HV2A.out.len ?_) | (with_reducible refine wpl_loadw (o := ⟨_, .load _ _, _, _, _, _⟩) (by first | rfl | (go_simp; done) | fail) rfl row_id HV2A.out.blk rfl HV2A.out.len ?_))
  refine (rid_n HBB.out _).mono ?_
  rintro e w5_ ⟨A7, c7, rfl, hs3, hc7, hb_⟩
  have HS3 := Lib.hid hs3
  have HO5 := Lib.hid (own_below HO4.out hb_)
  have HG5 := Lib.hid (Grow.trans _ _ _ HG4.out hb_)
  clear hs3 hb_ HO4 HG4 HV2A
  go_wp2_with fail
  refine (long_any _ _ _ b _ HS3.out (by omega)).mono ?_
  rintro e w6_ ⟨A8, c8, rfl, ho_, hb_⟩
  have HLG := Lib.hid (Sl.of_own ho_)
  have HAB := Lib.hid (all_bytes (beBytes 32 4 ++ b))
  have HO6 := Lib.hid (own_below HO5.out hb_)
  have HG6 := Lib.hid (Grow.trans _ _ _ HG5.out hb_)
  clear ho_ hb_ HO5 HS3 HG5
  go_wp2_with (at_builtin; refine wpl_apps rfl rfl el_u8 HO6.out rfl HLG.out rfl HAB.out (by omega) (by omega) HG6.out.size ?_)
  intro A9 c9 w7 ho hg hA
  have hb4 : Grow w_ w7 := app_below HG6.out HO6.out hg
  have HX := Lib.hid (show Sl w7 w7.heap.size 1 A9 (1 + (4 + 32) + (4 + 32)) ((underB 2 [a, b]).map B) by
    have h := Sl.of_own ho
    rw [under2', HA.out.2, HBB.out.2]
    try simp only [List.map_append, List.map_cons, List.map_nil, List.cons_append, List.nil_append, List.append_assoc] at h
    simp only [List.map_append, List.map_cons, List.map_nil, List.cons_append, List.nil_append, List.append_assoc]
    exact h)
  have HB_ := Lib.hid (HB.out.grow' hb4)
  have HR_ := Lib.hid (HR.out.grow hb4)
  clear HB HR ho hg hA HO6 HG6 HLG HAB hb4
  have HB := HB_
  have HR := HR_
  clear HB_ HR_
  try clear w_
  rename World => w_
  go_wp2_with fail
  refine (dof_any _ _ _ HD.out _ HX.out (by omega)).mono ?_
  rintro e w_ ⟨rfl, hb_⟩
  have HB_ := Lib.hid (HB.out.grow' hb_)
  clear HB
  have HB := HB_
  clear HB_
  have HR_ := Lib.hid (HR.out.grow hb_)
  clear HR
  have HR := HR_
  clear HR_
  clear hb_
  go_wp2_with (first | (with_reducible refine wpl_storeb (o := ⟨none, .store _ _ _, _, _, _, _⟩) rfl rfl row_id HR.out.blk rfl rfl HR.out.len HD.out.len HD.out.one ?_))
  intro w2_ hb2_ hg2_ hsz2_
  have HB_ := Lib.hid (put_below HB.out HG.out hg2_)
  have HX_ := Lib.hid (at_mk hb2_ HD.out.len)
  clear hb2_ hg2_ hsz2_ HB HR
  have HB := HB_
  have HR := HX_
  clear HB_ HX_
  try clear w_
  rename World => w_
  go_wp2_with fail
  exact ret_cell rfl row_id HR.out.blk rfl HR.out.len rfl ⟨rfl, HB.out⟩

set_option maxRecDepth 100000 in
set_option maxHeartbeats 1000000 in
theorem rroot_any : ∀ (N n c : Nat) (A : Option Addr) (ps : List (Value × List UInt8)) (xs : List Value) (w : World), n ≤ N → Dig xs (rootB (ps.map Prod.snd)) → Parts w w.heap.size A n ps → n ≤ c → n ≤ 16777216 → (∀ p ∈ ps, p.2.length ≤ 1000000) → Tabs w →
    Calls Tryd.prog 39 #[.slice A n c] w fun e w' => e = .returned (.agg xs.toArray) ∧ Below w.heap.size w w' := by
  intro N
  induction N with
  | zero =>
    intro n c A ps xs w hnN hx hp hc hn hl ht
    obtain rfl : n = 0 := by omega
    have HD := Lib.hid (show Dig xs (sha [0]) by
      have h := hx
      obtain rfl : ps = [] := List.eq_nil_of_length_eq_zero hp.len
      rw [List.map_nil, rootB_nil] at h; unfold noneB at h
      have e : underB 0 [] = [0] := by unfold underB; simp
      rw [e] at h; exact h)
    have HB := Lib.hid (Below.refl w.heap.size w)
    have HG := Lib.hid (Nat.le_refl w.heap.size)
    clear ht hx hp hl
    go_enter Tryd.func39, Tryd.ntmps39
    go_wp2_with (first | (with_reducible refine wpl_alloc (o := ⟨some 2, _, _, _, _, _⟩) rfl rfl zero_id ?_))
    intro w2_ hb2_ hb_ hsz2_
    have HX_ := Lib.hid (at_mk hb2_ len_id)
    clear hb2_ hsz2_
    have HB_ := Lib.hid (HB.out.grow' hb_)
    clear HB
    have HB := HB_
    clear HB_
    have HR := HX_
    clear hb_ HX_
    try clear w_
    rename World => w_
    go_wp2_with fail
    generalize hw_ : World.alloc w_ _ = w2_
    obtain ⟨hX_, hb_, hs_⟩ := alloc_eq hw_
    generalize hg_ : w_.heap.size = g at hX_ hs_ ⊢
    have HX := Lib.hid hX_
    clear hw_ hX_
    have HB_ := Lib.hid (HB.out.grow' hb_)
    clear HB
    have HB := HB_
    clear HB_
    have HR_ := Lib.hid (HR.out.grow hb_)
    clear HR
    have HR := HR_
    clear HR_
    clear hb_ hs_
    clear hg_
    try clear w_
    rename World => w_
    have HS := Lib.hid (show Sl w_ w_.heap.size 1 (some ⟨g, 0, none⟩) 1 ([0].map B) from HX.out.sl rfl)
    go_wp2_with fail
    refine (dof_any _ _ _ HD.out _ HS.out (by omega)).mono ?_
    rintro e w_ ⟨rfl, hb_⟩
    have HB_ := Lib.hid (HB.out.grow' hb_)
    clear HB
    have HB := HB_
    clear HB_
    have HR_ := Lib.hid (HR.out.grow hb_)
    clear HR
    have HR := HR_
    clear HR_
    clear hb_
    go_wp2_with (first | (with_reducible refine wpl_storeb (o := ⟨none, .store _ _ _, _, _, _, _⟩) rfl rfl row_id HR.out.blk rfl rfl HR.out.len HD.out.len HD.out.one ?_))
    intro w2_ hb2_ hg2_ hsz2_
    have HB_ := Lib.hid (put_below HB.out HG.out hg2_)
    have HX_ := Lib.hid (at_mk hb2_ HD.out.len)
    clear hb2_ hg2_ hsz2_ HB HR
    have HB := HB_
    have HR := HX_
    clear HB_ HX_
    try clear w_
    rename World => w_
    go_wp2_with fail
    exact ret_cell rfl row_id HR.out.blk rfl HR.out.len rfl ⟨rfl, HB.out⟩
  | succ N ih =>
    intro n c A ps xs w hnN hx hp hc hn hl ht
    by_cases hz : n ≤ N
    · exact ih n c A ps xs w hz hx hp hc hn hl ht
    have hnN1 : n = N + 1 := by omega
    have HT := Lib.hid ht; have HP := Lib.hid hp; have HL := Lib.hid hl
    have HN := Lib.hid hp.len
    have HB := Lib.hid (Below.refl w.heap.size w)
    have HG := Lib.hid (Nat.le_refl w.heap.size)
    have HIH := Lib.hid ih
    by_cases h1 : N = 0
    · subst h1
      obtain rfl : n = 1 := by omega
      obtain ⟨p, rfl⟩ : ∃ p, ps = [p] := by
        have := hp.len
        match ps, this with
        | [p], _ => exact ⟨p, rfl⟩
      have HD := Lib.hid (show Dig xs (leafB p.2) by have h := hx; rw [List.map_cons, List.map_nil, rootB_one] at h; exact h)
      obtain ⟨b, off, A2, c2, bs, rfl, hps, hcell, hcc, hs⟩ := hp.at_ (show 0 < 1 by omega)
      obtain rfl : p = (.slice A2 bs.length c2, bs) := by simpa using hps
      have HS := Lib.hid hs
      have hbl := hl _ (List.mem_singleton.2 rfl)
      rw [Nat.add_zero] at hcell
      have HC := Lib.hid hcell
      clear ht hx hp hl hs ih hps hcell hz hnN1
      go_enter Tryd.func39, Tryd.ntmps39
      go_wp2_with (first | (with_reducible refine wpl_alloc (o := ⟨some 2, _, _, _, _, _⟩) rfl rfl zero_id ?_))
      intro w2_ hb2_ hb_ hsz2_
      have HX_ := Lib.hid (at_mk hb2_ len_id)
      clear hb2_ hsz2_
      have HB_ := Lib.hid (HB.out.grow' hb_)
      clear HB
      have HB := HB_
      clear HB_
      have HT_ := Lib.hid (HT.out.grow hb_)
      clear HT
      have HT := HT_
      clear HT_
      have HS_ := Lib.hid (HS.out.grow hb_)
      clear HS
      have HS := HS_
      clear HS_
      have HR := HX_
      clear hb_ HX_
      try clear w_
      rename World => w_
      have hcell := bcell HB.out HC.out
      go_wp2_with fail
      refine (rleaf_any _ _ _ _ HD.out _ HS.out hbl).mono ?_
      rintro e w_ ⟨rfl, hb_⟩
      have HB_ := Lib.hid (HB.out.grow' hb_)
      clear HB
      have HB := HB_
      clear HB_
      have HR_ := Lib.hid (HR.out.grow hb_)
      clear HR
      have HR := HR_
      clear HR_
      clear hb_
      clear hcell
      go_wp2_with (first | (with_reducible refine wpl_storeb (o := ⟨none, .store _ _ _, _, _, _, _⟩) rfl rfl row_id HR.out.blk rfl rfl HR.out.len HD.out.len HD.out.one ?_))
      intro w2_ hb2_ hg2_ hsz2_
      have HB_ := Lib.hid (put_below HB.out HG.out hg2_)
      have HX_ := Lib.hid (at_mk hb2_ HD.out.len)
      clear hb2_ hg2_ hsz2_ HB HR
      have HB := HB_
      have HR := HX_
      clear HB_ HX_
      try clear w_
      rename World => w_
      go_wp2_with fail
      exact ret_cell rfl row_id HR.out.blk rfl HR.out.len rfl ⟨rfl, HB.out⟩
    · have h2 : 2 ≤ n := by omega
      obtain ⟨k, hk⟩ : ∃ k, k = halfN n := ⟨_, rfl⟩
      have hk1 : 1 ≤ k := by rw [hk]; exact halfN_pos n
      have hk2 : k < n := by rw [hk]; exact halfN_lt h2
      have hkn : k ≤ n := Nat.le_of_lt hk2
      have hkc : k ≤ c := by omega
      have HK := Lib.hid hk
      have hkN : k ≤ N := by omega
      have hdN : n - k ≤ N := by omega
      have hN1 : N + 1 ≤ n := by omega
      obtain ⟨xs1, hd1⟩ := dig_root ((ps.take k).map Prod.snd)
      obtain ⟨xs2, hd2⟩ := dig_root ((ps.drop k).map Prod.snd)
      have HD1 := Lib.hid hd1; have HD2 := Lib.hid hd2
      have HD := Lib.hid (show Dig xs (nodeB (rootB ((ps.take k).map Prod.snd)) (rootB ((ps.drop k).map Prod.snd))) by
        have h := hx
        rw [rootB_more _ (by rw [List.length_map, HN.out]; exact h2), List.length_map, HN.out, ← hk, ← List.map_take, ← List.map_drop] at h
        exact h)
      have z1 : ((n : Int) == 0) = false := by simp; omega
      have z2 : ((n : Int) == 1) = false := by simp; omega
      have z3 : decide ((n : Int) = 0) = false := by simp; omega
      have z4 : decide ((n : Int) = 1) = false := by simp; omega
      have z5 : (n == 0) = false := by simp; omega
      have z6 : (n == 1) = false := by simp; omega
      have z7 : decide (n = 0) = false := by simp; omega
      have z8 : decide (n = 1) = false := by simp; omega
      have HL1 := Lib.hid (show ∀ p ∈ ps.take k, p.2.length ≤ 1000000 from fun p hp => hl p (List.mem_of_mem_take hp))
      have HL2 := Lib.hid (show ∀ p ∈ ps.drop k, p.2.length ≤ 1000000 from fun p hp => hl p (List.mem_of_mem_drop hp))
      clear ht hx hp hl ih hd1 hd2 hk hnN1
      go_enter Tryd.func39, Tryd.ntmps39
      go_wp2_with (first | (with_reducible refine wpl_alloc (o := ⟨some 2, _, _, _, _, _⟩) rfl rfl zero_id ?_))
      intro w2_ hb2_ hb_ hsz2_
      have HX_ := Lib.hid (at_mk hb2_ len_id)
      clear hb2_ hsz2_
      have HB_ := Lib.hid (HB.out.grow' hb_)
      clear HB
      have HB := HB_
      clear HB_
      have HT_ := Lib.hid (HT.out.grow hb_)
      clear HT
      have HT := HT_
      clear HT_
      have HP_ := Lib.hid (HP.out.grow hb_)
      clear HP
      have HP := HP_
      clear HP_
      have HR := HX_
      clear hb_ HX_
      try clear w_
      rename World => w_
      go_wp2_with fail
      refine (half_any n _ h2 hn).mono ?_
      rintro e w1 ⟨rfl, rfl⟩
      rw [← HK.out]
      try go_wp2_with fail
      repeat' (first | (with_reducible refine wp_plan (id := 6) Grow [0,0,0,3,0,0,0,3,3,3] (.get 0 (.get 1 (.get 2 (.get 4 (.get 5 (.get 6 (.act 3 (.act 7 (.act 8 (.act 9 .done)))))))))) (by kernel_rfl) (by kernel_rfl) Grow.refl Grow.trans ?_) | go_values | go_skip | go_guarded | go_step | go_upon | go_back)
      intro w_ hd_
      have hb_ := hd_.grow
      have HB_ := Lib.hid (HB.out.grow' hb_)
      clear HB
      have HB := HB_
      clear HB_
      have HR_ := Lib.hid (HR.out.grow hb_)
      clear HR
      have HR := HR_
      clear HR_
      have HT_ := Lib.hid (HT.out.grow hb_)
      clear HT
      have HT := HT_
      clear HT_
      have HP_ := Lib.hid (HP.out.grow hb_)
      clear HP
      have HP := HP_
      clear HP_
      clear hb_ hd_
      repeat (first | (refine pl_calm rfl rfl (by first | exact wanted_none rfl | (go_simp; done) | rfl) (fun w_ => by first | (go_simp; rfl) | (go_simp; done) | rfl) (fun K hK => ?_); go_simp; refine hK _ _ ?_; clear hK K) | (refine pl_skip rfl (by first | (go_simp; done) | rfl) (fun K hK => ?_); go_simp; refine hK _ _ ?_; clear hK K) | (refine pl_skipa rfl (by first | (go_simp; done) | rfl) (fun K hK => ?_); go_simp; refine hK _ _ ?_; clear hK K))
      have HP1 := Lib.hid (HP.out.to1 hkn)
      have HP2 := Lib.hid (HP.out.from1 hkn hc)
      generalize (if c = k then A else Option.map (fun x => x.add k) A) = A2 at HP2 ⊢
      refine pl_act rfl (by first | exact wanted_none rfl | (go_simp; done) | rfl) (fun K hK => ?_)
      go_wp2_with fail
      refine (HIH.out k c A (ps.take k) xs1 _ (by omega) HD1.out HP1.out hkc (by omega) HL1.out HT.out).mono ?_
      rintro e w_ ⟨rfl, hb_⟩
      go_wp2_with fail
      refine hK _ _ (fun _ => hb_) ?_
      clear hK K
      have HB_ := Lib.hid (HB.out.grow' hb_)
      clear HB
      have HB := HB_
      clear HB_
      have HR_ := Lib.hid (HR.out.grow hb_)
      clear HR
      have HR := HR_
      clear HR_
      have HT_ := Lib.hid (HT.out.grow hb_)
      clear HT
      have HT := HT_
      clear HT_
      have HP2_ := Lib.hid (HP2.out.grow hb_)
      clear HP2
      have HP2 := HP2_
      clear HP2_
      clear hb_
      refine pl_act rfl (by first | exact wanted_none rfl | (go_simp; done) | rfl) (fun K hK => ?_)
      go_wp2_with fail
      refine (HIH.out (n - k) (c - k) A2 (ps.drop k) xs2 _ (by omega) HD2.out HP2.out (by omega) (by omega) HL2.out HT.out).mono ?_
      rintro e w_ ⟨rfl, hb_⟩
      go_wp2_with fail
      refine hK _ _ (fun _ => hb_) ?_
      clear hK K
      have HB_ := Lib.hid (HB.out.grow' hb_)
      clear HB
      have HB := HB_
      clear HB_
      have HR_ := Lib.hid (HR.out.grow hb_)
      clear HR
      have HR := HR_
      clear HR_
      have HT_ := Lib.hid (HT.out.grow hb_)
      clear HT
      have HT := HT_
      clear HT_
      clear hb_
      refine pl_act rfl (by first | exact wanted_none rfl | (go_simp; done) | rfl) (fun K hK => ?_)
      go_wp2_with fail
      refine (rnode_any HD1.out HD2.out HD.out _).mono ?_
      rintro e w_ ⟨rfl, hb_⟩
      go_wp2_with fail
      refine hK _ _ (fun _ => hb_) ?_
      clear hK K
      have HB_ := Lib.hid (HB.out.grow' hb_)
      clear HB
      have HB := HB_
      clear HB_
      have HR_ := Lib.hid (HR.out.grow hb_)
      clear HR
      have HR := HR_
      clear HR_
      clear hb_
      refine pl_act rfl (by first | exact wanted_none rfl | (go_simp; done) | rfl) (fun K hK => ?_)
      show wpList _ _ _ [⟨none, .store _ _ _, _, _, _, _⟩] _ _
      go_wp2_with (first | (with_reducible refine wpl_storeb (o := ⟨none, .store _ _ _, _, _, _, _⟩) rfl rfl row_id HR.out.blk rfl rfl HR.out.len HD.out.len HD.out.one ?_))
      intro w2_ hb2_ hg2_ hsz2_
      have HB_ := Lib.hid (put_below HB.out HG.out hg2_)
      have HX_ := Lib.hid (at_mk hb2_ HD.out.len)
      clear hb2_ hg2_ hsz2_ HB HR
      have HB := HB_
      have HR := HX_
      clear HB_ HX_
      try clear w_
      rename World => w_
      go_wp2_with fail
      refine hK _ _ (fun h => by cases h) ?_
      clear hK K
      refine pl_done ?_
      go_wp2_with fail
      exact ret_cell rfl row_id HR.out.blk rfl HR.out.len rfl ⟨rfl, HB.out⟩
end Go.Proofs.YtlondennhhffdaaDoor

/- Contracts of layer 6: tag.Of, tag.Is. -/
namespace Go.Proofs.YtlondennhhffdaaDoor
open Go.RowKit Go.Shelf
set_option linter.unusedVariables false

def tagB (key b : List UInt8) : List UInt8 := sha ((padB key).map (· ^^^ 92) ++ sha ((padB key).map (· ^^^ 54) ++ b))
theorem tagB_length (key b : List UInt8) : (tagB key b).length = 32 := sha_length _

set_option maxRecDepth 100000 in
set_option maxHeartbeats 1000000 in
theorem tof_any (A A2 : Option Addr) (n c n2 c2 : Nat) (key bs : List UInt8) {xs : List Value} (hx : Dig xs (tagB key bs)) (w : World) (hs : Sl w w.heap.size 1 A n (key.map B)) (hs2 : Sl w w.heap.size 1 A2 n2 (bs.map B)) (hc : n ≤ c) (hc2 : n2 ≤ c2) (hn : n ≤ 1099511627776) (hn2 : n2 ≤ 1000000) (ht : Tabs w) :
    Calls Tryd.prog 29 #[.slice A n c, .slice A2 n2 c2] w fun e w' => e = .returned (.agg xs.toArray) ∧ Below w.heap.size w w' := by
  have HS := Lib.hid hs; have HT := Lib.hid ht; have HD := Lib.hid hx; have HS2 := Lib.hid hs2
  have HB := Lib.hid (Below.refl w.heap.size w)
  have HL2 := Lib.hid (show bs.length = n2 by have := hs2.len; simpa using this)
  clear hs ht hx hs2
  have HG := Lib.hid (Nat.le_refl w.heap.size)
  obtain ⟨ps, hps⟩ : ∃ ps, ps = (padB key).map B := ⟨_, rfl⟩
  have HPD := Lib.hid (show Pad ps (padB key) by rw [hps]; exact Pad.padB key)
  obtain ⟨ys, hys⟩ : ∃ ys, ys = (sha ((padB key).map (· ^^^ 54) ++ bs)).map B := ⟨_, rfl⟩
  have HY := Lib.hid (show Dig ys _ by rw [hys]; exact Dig.sha _)
  have HPL := Lib.hid (padB_length key)
  have hrid := row_id
  have HRI := Lib.hid hrid
  clear hps hys hrid
  go_enter Tryd.func29, Tryd.ntmps29
  go_wp2_with (first | (with_reducible refine wpl_alloc (o := ⟨some 4, _, _, _, _, _⟩) rfl rfl zero_id ?_))
  intro w2_ hb2_ hb_ hsz2_
  have HX_ := Lib.hid (at_mk hb2_ len_id)
  clear hb2_ hsz2_
  have HB_ := Lib.hid (HB.out.grow' hb_)
  clear HB
  have HB := HB_
  clear HB_
  have HS_ := Lib.hid (HS.out.grow hb_)
  clear HS
  have HS := HS_
  clear HS_
  have HS2_ := Lib.hid (HS2.out.grow hb_)
  clear HS2
  have HS2 := HS2_
  clear HS2_
  have HT_ := Lib.hid (HT.out.grow hb_)
  clear HT
  have HT := HT_
  clear HT_
  have HR := HX_
  clear hb_ HX_
  try clear w_
  rename World => w_
  go_wp2_with fail
  refine (fill_any _ _ _ _ HPD.out _ HS.out hc hn HT.out).mono ?_
  rintro e w_ ⟨rfl, hb_⟩
  have HB_ := Lib.hid (HB.out.grow' hb_)
  clear HB
  have HB := HB_
  clear HB_
  have HR_ := Lib.hid (HR.out.grow hb_)
  clear HR
  have HR := HR_
  clear HR_
  have HS2_ := Lib.hid (HS2.out.grow hb_)
  clear HS2
  have HS2 := HS2_
  clear HS2_
  have HT_ := Lib.hid (HT.out.grow hb_)
  clear HT
  have HT := HT_
  clear HT_
  clear hb_
  go_wp2_with (first | (with_reducible refine wpl_alloc (o := ⟨some 5, _, _, _, _, _⟩) rfl rfl zero_pad ?_))
  intro w1_ hb1_ hbw1_ hsz1_
  have HB1_ := Lib.hid (at_mk hb1_ len_pad)
  have HBW1_ := Lib.hid hbw1_
  have HZ1_ := Lib.hid hsz1_
  clear hb1_ hbw1_ hsz1_
  go_wp2_with (first | (with_reducible refine wpl_storeb (o := ⟨none, .store _ _ _, _, _, _, _⟩) rfl rfl row_pad HB1_.out.blk rfl rfl HB1_.out.len HPD.out.len HPD.out.one ?_))
  intro w2_ hb2_ hg2_ hsz2_
  have hb_ := var_grow HBW1_.out HZ1_.out hg2_
  have HX_ := Lib.hid (at_mk hb2_ HPD.out.len)
  clear hb2_ hg2_ hsz2_ HB1_ HBW1_ HZ1_
  have HB_ := Lib.hid (HB.out.grow' hb_)
  clear HB
  have HB := HB_
  clear HB_
  have HR_ := Lib.hid (HR.out.grow hb_)
  clear HR
  have HR := HR_
  clear HR_
  have HS2_ := Lib.hid (HS2.out.grow hb_)
  clear HS2
  have HS2 := HS2_
  clear HS2_
  have HT_ := Lib.hid (HT.out.grow hb_)
  clear HT
  have HT := HT_
  clear HT_
  generalize hg_ : w_.heap.size = gv at HX_ ⊢
  clear hg_
  have HV := HX_
  clear hb_ HX_
  clear w1_
  try clear w_
  rename World => w_
  go_wp2_with (first | (with_reducible refine wpl_loadb (o := ⟨some 9, _, _, _, _, _⟩) rfl rfl row_pad HV.out.blk rfl HV.out.len ?_))
  go_wp2_with fail
  refine (turned_any HPD.out 54 _).mono ?_
  rintro e w_ ⟨g1, rfl, hs_, hb_⟩
  have HB_ := Lib.hid (HB.out.grow' hb_)
  clear HB
  have HB := HB_
  clear HB_
  have HR_ := Lib.hid (HR.out.grow hb_)
  clear HR
  have HR := HR_
  clear HR_
  have HV_ := Lib.hid (HV.out.grow hb_)
  clear HV
  have HV := HV_
  clear HV_
  have HS2_ := Lib.hid (HS2.out.grow hb_)
  clear HS2
  have HS2 := HS2_
  clear HS2_
  have HT_ := Lib.hid (HT.out.grow hb_)
  clear HT
  have HT := HT_
  clear HT_
  clear hb_
  have HS1 := Lib.hid hs_
  clear hs_
  go_wp2_with fail
  generalize hw_ : World.alloc w_ _ = w2_
  obtain ⟨hX_, hb_, hs_⟩ := alloc_eq hw_
  generalize hg_ : w_.heap.size = g2 at hX_ hs_ ⊢
  have HX := Lib.hid hX_
  clear hw_ hX_
  have HB_ := Lib.hid (HB.out.grow' hb_)
  clear HB
  have HB := HB_
  clear HB_
  have HR_ := Lib.hid (HR.out.grow hb_)
  clear HR
  have HR := HR_
  clear HR_
  have HV_ := Lib.hid (HV.out.grow hb_)
  clear HV
  have HV := HV_
  clear HV_
  have HS2_ := Lib.hid (HS2.out.grow hb_)
  clear HS2
  have HS2 := HS2_
  clear HS2_
  have HT_ := Lib.hid (HT.out.grow hb_)
  clear HT
  have HT := HT_
  clear HT_
  have HS1_ := Lib.hid (HS1.out.grow hb_)
  clear HS1
  have HS1 := HS1_
  clear HS1_
  clear hb_ hs_
  clear hg_
  try clear w_
  rename World => w_
  have HP := Lib.hid (show Parts w_ w_.heap.size (some ⟨g2, 0, none⟩) 2 [(.slice (some ⟨g1, 0, none⟩) 64 64, (padB key).map (· ^^^ 54)), (.slice A2 n2 c2, bs)] from
    parts_blk HX.out rfl (by intro p hp; simp only [List.mem_cons, List.not_mem_nil, or_false] at hp; rcases hp with rfl | rfl; exact part_mk HS1.out (by omega); exact part_mk HS2.out hc2))
  go_wp2_with fail
  refine (dsum_any _ _ _ _ HY.out (by simp [cat]) _ HP.out (by omega) (by rw [List.length_append, List.length_map, HPL.out, HL2.out]; omega) HT.out).mono ?_
  rintro e w_ ⟨rfl, hb_⟩
  have HB_ := Lib.hid (HB.out.grow' hb_)
  clear HB
  have HB := HB_
  clear HB_
  have HR_ := Lib.hid (HR.out.grow hb_)
  clear HR
  have HR := HR_
  clear HR_
  have HV_ := Lib.hid (HV.out.grow hb_)
  clear HV
  have HV := HV_
  clear HV_
  have HT_ := Lib.hid (HT.out.grow hb_)
  clear HT
  have HT := HT_
  clear HT_
  clear hb_
  clear HP HX HS1
  go_wp2_with (first | (with_reducible refine wpl_alloc (o := ⟨some 6, _, _, _, _, _⟩) rfl rfl zero_id ?_))
  intro w1_ hb1_ hbw1_ hsz1_
  have HB1_ := Lib.hid (at_mk hb1_ len_id)
  have HBW1_ := Lib.hid hbw1_
  have HZ1_ := Lib.hid hsz1_
  clear hb1_ hbw1_ hsz1_
  go_wp2_with (first | (with_reducible refine wpl_storeb (o := ⟨none, .store _ _ _, _, _, _, _⟩) rfl rfl row_id HB1_.out.blk rfl rfl HB1_.out.len HY.out.len HY.out.one ?_))
  intro w2_ hb2_ hg2_ hsz2_
  have hb_ := var_grow HBW1_.out HZ1_.out hg2_
  have HX_ := Lib.hid (at_mk hb2_ HY.out.len)
  clear hb2_ hg2_ hsz2_ HB1_ HBW1_ HZ1_
  have HB_ := Lib.hid (HB.out.grow' hb_)
  clear HB
  have HB := HB_
  clear HB_
  have HR_ := Lib.hid (HR.out.grow hb_)
  clear HR
  have HR := HR_
  clear HR_
  have HV_ := Lib.hid (HV.out.grow hb_)
  clear HV
  have HV := HV_
  clear HV_
  have HT_ := Lib.hid (HT.out.grow hb_)
  clear HT
  have HT := HT_
  clear HT_
  generalize hg_ : w_.heap.size = gw at HX_ ⊢
  clear hg_
  have HW := HX_
  clear hb_ HX_
  clear w1_
  try clear w_
  rename World => w_
  try go_wp2_with fail
  repeat' (first | (with_reducible refine wp_plan (id := 3) Grow [2,3,0,3,3,3] (.get 0 (.get 2 (.act 1 (.act 3 (.act 4 (.act 5 .done)))))) (by kernel_rfl) (by kernel_rfl) Grow.refl Grow.trans ?_) | go_values | go_skip | go_guarded | go_step | go_upon | go_back)
  intro w_ hd_
  have hb_ := hd_.grow
  have HB_ := Lib.hid (HB.out.grow' hb_)
  clear HB
  have HB := HB_
  clear HB_
  have HR_ := Lib.hid (HR.out.grow hb_)
  clear HR
  have HR := HR_
  clear HR_
  have HV_ := Lib.hid (HV.out.grow hb_)
  clear HV
  have HV := HV_
  clear HV_
  have HW_ := Lib.hid (HW.out.grow hb_)
  clear HW
  have HW := HW_
  clear HW_
  have HT_ := Lib.hid (HT.out.grow hb_)
  clear HT
  have HT := HT_
  clear HT_
  clear hb_ hd_
  repeat (first | (refine pl_calm rfl rfl (by first | exact wanted_none rfl | (go_simp; done) | rfl) (fun w_ => by first | (go_simp; rfl) | (go_simp; done) | rfl) (fun K hK => ?_); go_simp; refine hK _ _ ?_; clear hK K) | (refine pl_skip rfl (by first | (go_simp; done) | rfl) (fun K hK => ?_); go_simp; refine hK _ _ ?_; clear hK K) | (refine pl_skipa rfl (by first | (go_simp; done) | rfl) (fun K hK => ?_); go_simp; refine hK _ _ ?_; clear hK K) | (refine pl_loadb rfl rfl (by first | exact wanted_none rfl | (go_simp; done) | rfl) rfl row_pad HV.out.blk (by first | rfl | (go_simp; done) | rfl) HV.out.len (fun K hK => ?_); go_simp; refine hK _ _ ?_; clear hK K) | (refine pl_loadbnow rfl rfl (by first | exact wanted_none rfl | (go_simp; done) | rfl) rfl row_pad HV.out.blk (by first | rfl | (go_simp; done) | rfl) HV.out.len (fun K hK => ?_); go_simp; refine hK _ _ ?_; clear hK K))
  refine pl_act rfl (by first | exact wanted_none rfl | (go_simp; done) | rfl) (fun K hK => ?_)
  go_wp2_with fail
  refine (turned_any HPD.out 92 _).mono ?_
  rintro e w_ ⟨g3, rfl, hs_, hb_⟩
  go_wp2_with fail
  refine hK _ _ (fun _ => hb_) ?_
  clear hK K
  have HB_ := Lib.hid (HB.out.grow' hb_)
  clear HB
  have HB := HB_
  clear HB_
  have HR_ := Lib.hid (HR.out.grow hb_)
  clear HR
  have HR := HR_
  clear HR_
  have HW_ := Lib.hid (HW.out.grow hb_)
  clear HW
  have HW := HW_
  clear HW_
  have HT_ := Lib.hid (HT.out.grow hb_)
  clear HT
  have HT := HT_
  clear HT_
  clear hb_
  have HS1 := Lib.hid hs_
  clear hs_
  repeat (first | (refine pl_calm rfl rfl (by first | exact wanted_none rfl | (go_simp; done) | rfl) (fun w_ => by first | (go_simp; rfl) | (go_simp; done) | rfl) (fun K hK => ?_); go_simp; refine hK _ _ ?_; clear hK K) | (refine pl_skip rfl (by first | (go_simp; done) | rfl) (fun K hK => ?_); go_simp; refine hK _ _ ?_; clear hK K) | (refine pl_skipa rfl (by first | (go_simp; done) | rfl) (fun K hK => ?_); go_simp; refine hK _ _ ?_; clear hK K))
  refine pl_act rfl (by first | exact wanted_none rfl | (go_simp; done) | rfl) (fun K hK => ?_)
  go_wp2_with fail
  generalize hw_ : World.alloc w_ _ = w2_
  obtain ⟨hX_, hb_, hs_⟩ := alloc_eq hw_
  generalize hg_ : w_.heap.size = g4 at hX_ hs_ ⊢
  refine hK _ _ (fun _ => hb_) ?_
  have HX := Lib.hid hX_
  clear hK K hw_ hX_
  have HB_ := Lib.hid (HB.out.grow' hb_)
  clear HB
  have HB := HB_
  clear HB_
  have HR_ := Lib.hid (HR.out.grow hb_)
  clear HR
  have HR := HR_
  clear HR_
  have HW_ := Lib.hid (HW.out.grow hb_)
  clear HW
  have HW := HW_
  clear HW_
  have HT_ := Lib.hid (HT.out.grow hb_)
  clear HT
  have HT := HT_
  clear HT_
  have HS1_ := Lib.hid (HS1.out.grow hb_)
  clear HS1
  have HS1 := HS1_
  clear HS1_
  clear hb_ hg_ hs_
  clear w_
  rename World => w_
  have HP := Lib.hid (show Parts w_ w_.heap.size (some ⟨g4, 0, none⟩) 2 [(.slice (some ⟨g3, 0, none⟩) 64 64, (padB key).map (· ^^^ 92)), (.slice (some ⟨gw, 0, none⟩) 32 32, sha ((padB key).map (· ^^^ 54) ++ bs))] from
    parts_blk HX.out rfl (by intro p hp; simp only [List.mem_cons, List.not_mem_nil, or_false] at hp; rcases hp with rfl | rfl; exact part_mk HS1.out (by omega); exact part_mk (HY.out.bytes HW.out.sl) (by omega)))
  refine pl_act rfl (by first | exact wanted_none rfl | (go_simp; done) | rfl) (fun K hK => ?_)
  go_wp2_with fail
  refine (dsum_any _ _ _ _ HD.out (by simp [cat]) _ HP.out (by omega) (by rw [List.length_append, List.length_map, HPL.out, sha_length]; omega) HT.out).mono ?_
  rintro e w_ ⟨rfl, hb_⟩
  go_wp2_with fail
  refine hK _ _ (fun _ => hb_) ?_
  clear hK K
  have HB_ := Lib.hid (HB.out.grow' hb_)
  clear HB
  have HB := HB_
  clear HB_
  have HR_ := Lib.hid (HR.out.grow hb_)
  clear HR
  have HR := HR_
  clear HR_
  clear hb_
  clear HP
  refine pl_act rfl (by first | exact wanted_none rfl | (go_simp; done) | rfl) (fun K hK => ?_)
  show wpList _ _ _ [⟨none, .store _ _ _, _, _, _, _⟩] _ _
  go_wp2_with (first | (with_reducible refine wpl_storeb (o := ⟨none, .store _ _ _, _, _, _, _⟩) rfl rfl row_id HR.out.blk rfl rfl HR.out.len HD.out.len HD.out.one ?_))
  intro w2_ hb2_ hg2_ hsz2_
  have HB_ := Lib.hid (put_below HB.out HG.out hg2_)
  have HX_ := Lib.hid (at_mk hb2_ HD.out.len)
  clear hb2_ hg2_ hsz2_ HB HR
  have HB := HB_
  have HR := HX_
  clear HB_ HX_
  try clear w_
  rename World => w_
  go_wp2_with fail
  refine hK _ _ (fun h => by cases h) ?_
  clear hK K
  refine pl_done ?_
  go_wp2_with fail
  exact ret_cell rfl HRI.out HR.out.blk rfl HR.out.len rfl ⟨rfl, HB.out⟩

theorem same_dig {xs ys : List Value} {a b : List UInt8} (h : Dig xs a) (k : Dig ys b) (w : World) : Calls Tryd.prog 22 #[.agg xs.toArray, .agg ys.toArray] w fun e w' => e = .returned (.bool (decide (a = b))) ∧ Below w.heap.size w w' := by
  rw [h.1, k.1]; exact same_any a b w h.2 k.2

set_option maxRecDepth 100000 in
set_option maxHeartbeats 1000000 in
theorem tis_any (A A2 : Option Addr) (n c n2 c2 : Nat) (key bs t : List UInt8) {xs : List Value} (hx : Dig xs t) (w : World) (hs : Sl w w.heap.size 1 A n (key.map B)) (hs2 : Sl w w.heap.size 1 A2 n2 (bs.map B)) (hc : n ≤ c) (hc2 : n2 ≤ c2) (hn : n ≤ 1099511627776) (hn2 : n2 ≤ 1000000) (ht : Tabs w) :
    Calls Tryd.prog 30 #[.slice A n c, .slice A2 n2 c2, .agg xs.toArray] w fun e w' => e = .returned (.bool (decide (tagB key bs = t))) ∧ Below w.heap.size w w' := by
  have HS := Lib.hid hs; have HT := Lib.hid ht; have HD := Lib.hid hx; have HS2 := Lib.hid hs2
  have HB := Lib.hid (Below.refl w.heap.size w)
  clear hs ht hx hs2
  obtain ⟨ys, hys⟩ : ∃ ys, ys = (tagB key bs).map B := ⟨_, rfl⟩
  have HY := Lib.hid (show Dig ys (tagB key bs) from ⟨hys, tagB_length _ _⟩)
  clear hys
  go_enter Tryd.func30, Tryd.ntmps30
  go_wp2_with (first | (with_reducible refine wpl_box (o := ⟨some 5, _, _, _, _, _⟩) rfl rfl rfl ?_))
  intro w2_ hb2_ hb_ hsz2_
  have HX_ := Lib.hid (at_mk hb2_ HD.out.len)
  clear hb2_ hsz2_
  have HB_ := Lib.hid (HB.out.grow' hb_)
  clear HB
  have HB := HB_
  clear HB_
  have HS_ := Lib.hid (HS.out.grow hb_)
  clear HS
  have HS := HS_
  clear HS_
  have HS2_ := Lib.hid (HS2.out.grow hb_)
  clear HS2
  have HS2 := HS2_
  clear HS2_
  have HT_ := Lib.hid (HT.out.grow hb_)
  clear HT
  have HT := HT_
  clear HT_
  have HV := HX_
  clear hb_ HX_
  try clear w_
  rename World => w_
  try go_wp2_with fail
  repeat' (first | (with_reducible refine wp_plan (id := 1) Grow [0,0,4,1,3,0] (.get 0 (.get 1 (.get 3 (.act 2 (.act 4 (.get 5 .done)))))) (by kernel_rfl) (by kernel_rfl) Grow.refl Grow.trans ?_) | go_values | go_skip | go_guarded | go_step | go_upon | go_back)
  intro w_ hd_
  have hb_ := hd_.grow
  have HB_ := Lib.hid (HB.out.grow' hb_)
  clear HB
  have HB := HB_
  clear HB_
  have HV_ := Lib.hid (HV.out.grow hb_)
  clear HV
  have HV := HV_
  clear HV_
  have HS_ := Lib.hid (HS.out.grow hb_)
  clear HS
  have HS := HS_
  clear HS_
  have HS2_ := Lib.hid (HS2.out.grow hb_)
  clear HS2
  have HS2 := HS2_
  clear HS2_
  have HT_ := Lib.hid (HT.out.grow hb_)
  clear HT
  have HT := HT_
  clear HT_
  clear hb_ hd_
  repeat (first | (refine pl_calm rfl rfl (by first | exact wanted_none rfl | (go_simp; done) | rfl) (fun w_ => by first | (go_simp; rfl) | (go_simp; done) | rfl) (fun K hK => ?_); go_simp; refine hK _ _ ?_; clear hK K) | (refine pl_skip rfl (by first | (go_simp; done) | rfl) (fun K hK => ?_); go_simp; refine hK _ _ ?_; clear hK K) | (refine pl_skipa rfl (by first | (go_simp; done) | rfl) (fun K hK => ?_); go_simp; refine hK _ _ ?_; clear hK K) | (refine pl_loadb rfl rfl (by first | exact wanted_none rfl | (go_simp; done) | rfl) rfl row_id HV.out.blk (by first | rfl | (go_simp; done) | rfl) HV.out.len (fun K hK => ?_); go_simp; refine hK _ _ ?_; clear hK K) | (refine pl_loadbnow rfl rfl (by first | exact wanted_none rfl | (go_simp; done) | rfl) rfl row_id HV.out.blk (by first | rfl | (go_simp; done) | rfl) HV.out.len (fun K hK => ?_); go_simp; refine hK _ _ ?_; clear hK K))
  refine pl_act rfl (by first | exact wanted_none rfl | (go_simp; done) | rfl) (fun K hK => ?_)
  go_wp2_with fail
  refine (tof_any _ _ _ _ _ _ _ _ HY.out _ HS.out HS2.out hc hc2 hn hn2 HT.out).mono ?_
  rintro e w_ ⟨rfl, hb_⟩
  go_wp2_with fail
  refine hK _ _ (fun _ => hb_) ?_
  clear hK K
  have HB_ := Lib.hid (HB.out.grow' hb_)
  clear HB
  have HB := HB_
  clear HB_
  clear hb_
  repeat (first | (refine pl_calm rfl rfl (by first | exact wanted_none rfl | (go_simp; done) | rfl) (fun w_ => by first | (go_simp; rfl) | (go_simp; done) | rfl) (fun K hK => ?_); go_simp; refine hK _ _ ?_; clear hK K) | (refine pl_skip rfl (by first | (go_simp; done) | rfl) (fun K hK => ?_); go_simp; refine hK _ _ ?_; clear hK K) | (refine pl_skipa rfl (by first | (go_simp; done) | rfl) (fun K hK => ?_); go_simp; refine hK _ _ ?_; clear hK K))
  refine pl_act rfl (by first | exact wanted_none rfl | (go_simp; done) | rfl) (fun K hK => ?_)
  go_wp2_with fail
  refine (same_dig HY.out HD.out _).mono ?_
  rintro e w_ ⟨rfl, hb_⟩
  go_wp2_with fail
  refine hK _ _ (fun _ => hb_) ?_
  clear hK K
  have HB_ := Lib.hid (HB.out.grow' hb_)
  clear HB
  have HB := HB_
  clear HB_
  clear hb_
  repeat (first | (refine pl_calm rfl rfl (by first | exact wanted_none rfl | (go_simp; done) | rfl) (fun w_ => by first | (go_simp; rfl) | (go_simp; done) | rfl) (fun K hK => ?_); go_simp; refine hK _ _ ?_; clear hK K) | (refine pl_skip rfl (by first | (go_simp; done) | rfl) (fun K hK => ?_); go_simp; refine hK _ _ ?_; clear hK K) | (refine pl_skipa rfl (by first | (go_simp; done) | rfl) (fun K hK => ?_); go_simp; refine hK _ _ ?_; clear hK K))
  refine pl_done ?_
  go_wp2_with fail
  go_ret
  exact ⟨rfl, HB.out⟩

end Go.Proofs.YtlondennhhffdaaDoor

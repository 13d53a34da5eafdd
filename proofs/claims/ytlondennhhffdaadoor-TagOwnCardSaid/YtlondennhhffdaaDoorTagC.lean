/- The document's tag: seisinref06.Of, Sign. -/
import Derived.Test.YtlondennhhffdaaDoorTagB
namespace Go.Proofs.YtlondennhhffdaaDoor
open Go.RowKit Go.Shelf
set_option linter.unusedVariables false

/-! ### The document's -/
def Apart (A O : Option Addr) : Prop := ∀ g, A.map Addr.block = some g → O.map Addr.block ≠ some g
theorem Apart.symm {A O : Option Addr} (h : Apart A O) : Apart O A := fun g h1 h2 => h g h2 h1
theorem apart_app {w : World} {base sz n c : Nat} {e : TypeId} {A A1 O : Option Addr} {xs : List Value} (h : Apart A O) (ho : w.ownsRow base e sz (.slice O n c) n xs) (hA : A1.map Addr.block = A.map Addr.block ∨ ∃ j, A1.map Addr.block = some (w.heap.size + j)) : Apart A1 O := by
  intro g h1 h2
  rcases hA with hA | ⟨j, hA⟩
  · exact h g (hA ▸ h1) h2
  · have := (ho.lt g (by cases O <;> simp_all [Value.ownBlock])).2
    rw [hA] at h1
    simp only [Option.some.injEq] at h1
    omega
theorem own_apart {w w2 : World} {base sz n c : Nat} {e : TypeId} {A O : Option Addr} {xs : List Value} (ho : w.ownsRow base e sz (.slice O n c) n xs) (hg : w.grownBy w2 (A.map Addr.block)) (h : Apart A O) : w2.ownsRow base e sz (.slice O n c) n xs :=
  own_kept ho hg fun g hO hh => h g hh.symm (by rw [hO]; rfl)
theorem app_new {w : World} {A A1 : Option Addr} {k : Nat} (h : A1.map Addr.block = A.map Addr.block ∨ ∃ a, A1 = some a ∧ a.block = w.heap.size + k) : A1.map Addr.block = A.map Addr.block ∨ ∃ j, A1.map Addr.block = some (w.heap.size + j) :=
  h.imp_right fun ⟨a, h1, h2⟩ => ⟨k, by rw [h1]; exact congrArg some h2⟩
theorem app_new0 {w : World} {A A1 : Option Addr} (h : A1.map Addr.block = A.map Addr.block ∨ ∃ a, A1 = some a ∧ a.block = w.heap.size) : A1.map Addr.block = A.map Addr.block ∨ ∃ j, A1.map Addr.block = some (w.heap.size + j) :=
  h.imp_right fun ⟨a, h1, h2⟩ => ⟨0, by rw [h1]; exact congrArg some h2⟩

def keyB (key : List UInt8) : List UInt8 := if 64 < key.length then sha key else key
theorem padB_key (key : List UInt8) : padB key = keyB key ++ List.replicate (64 - (keyB key).length) 0 := rfl
theorem keyB_le (key : List UInt8) : (keyB key).length ≤ 64 := by unfold keyB; split; rw [sha_length]; omega; omega
theorem padB_lt (key : List UInt8) (k : Nat) (x : UInt8) (h : (keyB key)[k]? = some x) : (padB key)[k]? = some x := by
  rw [padB_key, List.getElem?_append_left (List.getElem?_eq_some_iff.1 h).1]; exact h
theorem padB_ge (key : List UInt8) (k : Nat) (h : (keyB key).length ≤ k) (hk : k < 64) : (padB key)[k]? = some 0 := by
  rw [padB_key, List.getElem?_append_right h, List.getElem?_replicate, if_pos (by omega)]
def turnTo (p : List UInt8) (m : UInt8) (k : Nat) : List UInt8 := (p.take k).map (· ^^^ m)
theorem turnTo_snoc (p : List UInt8) (m : UInt8) (k : Nat) (x : UInt8) (h : p[k]? = some x) : turnTo p m (k + 1) = turnTo p m k ++ [x ^^^ m] := by
  unfold turnTo; rw [List.take_add_one, h]; simp
theorem turnTo_all (p : List UInt8) (m : UInt8) (k : Nat) (h : p.length ≤ k) : turnTo p m k = p.map (· ^^^ m) := by unfold turnTo; rw [List.take_of_length_le h]
attribute [irreducible] turnTo
theorem xor54 (x : UInt8) : Op.intBits .xor .u8 (b8 x) 54 = pure (.int .u8 (b8 (x ^^^ 54))) := xor_b x 54
theorem xor92 (x : UInt8) : Op.intBits .xor .u8 (b8 x) 92 = pure (.int .u8 (b8 (x ^^^ 92))) := xor_b x 92

/-- The two texts so far. -/
def TInv (w wr : World) (A O : Option Addr) (c o k : Nat) (p : List UInt8) : Prop :=
  wr.ownsRow w.heap.size 5 1 (.slice A k c) k ((turnTo p 54 k).map B) ∧ wr.ownsRow w.heap.size 5 1 (.slice O k o) k ((turnTo p 92 k).map B) ∧ Apart A O ∧ Below w.heap.size w wr
theorem t_step {w wr w2 w3 : World} {A O A1 O1 : Option Addr} {c o c1 o1 k : Nat} {p : List UInt8} {x : UInt8} (hx : p[k]? = some x) (h : TInv w wr A O c o k p)
    (ho : w2.ownsRow w.heap.size 5 1 (.slice A1 (k + 1) c1) (k + 1) ((turnTo p 54 k).map B ++ [B (x ^^^ 54)])) (hg : wr.grownBy w2 (A.map Addr.block)) (hA : A1.map Addr.block = A.map Addr.block ∨ ∃ a, A1 = some a ∧ a.block = wr.heap.size + 1)
    (ho3 : w3.ownsRow w.heap.size 5 1 (.slice O1 (k + 1) o1) (k + 1) ((turnTo p 92 k).map B ++ [B (x ^^^ 92)])) (hg3 : w2.grownBy w3 (O.map Addr.block)) (hO : O1.map Addr.block = O.map Addr.block ∨ ∃ a, O1 = some a ∧ a.block = w2.heap.size + 1) :
    TInv w w3 A1 O1 c1 o1 (k + 1) p := by
  obtain ⟨h1, h2, h3, h4⟩ := h
  have a1 : Apart A1 O := apart_app h3 h2 (app_new hA)
  have o2 := own_apart h2 hg h3
  have a2 : Apart O1 A1 := apart_app a1.symm ho (app_new hO)
  refine ⟨?_, ?_, a2.symm, app_below (app_below h4 h1 hg) o2 hg3⟩
  · rw [turnTo_snoc p 54 k x hx, List.map_append]; exact own_apart ho hg3 a1.symm
  · rw [turnTo_snoc p 92 k x hx, List.map_append]; exact ho3
theorem t_mid {w wr w2 : World} {A O : Option Addr} {c o k : Nat} {p : List UInt8} (h : TInv w wr A O c o k p)
    (hg : wr.grownBy w2 (A.map Addr.block)) : w2.ownsRow w.heap.size 5 1 (.slice O k o) k ((turnTo p 92 k).map B) ∧ w.heap.size ≤ w2.heap.size :=
  ⟨own_apart h.2.1 hg h.2.2.1, Nat.le_trans h.2.2.2.size hg.size⟩

def zero8 : UInt8 := 0
theorem xor54z : Op.intBits .xor .u8 0 54 = pure (.int .u8 (b8 (zero8 ^^^ 54))) := xor_b 0 54
theorem xor92z : Op.intBits .xor .u8 0 92 = pure (.int .u8 (b8 (zero8 ^^^ 92))) := xor_b 0 92
theorem padB_z (key : List UInt8) (k : Nat) (h : (keyB key).length ≤ k) (hk : k < 64) : (padB key)[k]? = some zero8 := padB_ge key k h hk
attribute [irreducible] zero8
theorem tbytes_n {xs : List Value} {d : List UInt8} (hx : Dig xs d) (w : World) :
    Calls Tryd.prog 56 #[.agg xs.toArray] w fun e w' => ∃ A' n' c', e = .returned (.slice A' n' c') ∧ Sl w' w'.heap.size 1 A' n' (d.map B) ∧ Below w.heap.size w w' :=
  (tbytes_any hx w).mono fun e w' ⟨A', c', h1, h2, h3, h4⟩ => ⟨A', 32, c', h1, h2, h4⟩
attribute [local go_sem high] xor54 xor92 xor54z xor92z
set_option maxRecDepth 100000 in
set_option maxHeartbeats 2000000 in
theorem trof_any (A A2 : Option Addr) (n c n2 c2 : Nat) (key bs : List UInt8) {xs : List Value} (hx : Dig xs (tagB key bs)) (w : World) (hs : Sl w w.heap.size 1 A n (key.map B)) (hs2 : Sl w w.heap.size 1 A2 n2 (bs.map B)) (hn : n ≤ 1099511627776) (hn2 : n2 ≤ 1000000) :
    Calls Tryd.prog 28 #[.slice A n c, .slice A2 n2 c2] w fun e w' => e = .returned (.agg xs.toArray) ∧ Below w.heap.size w w' := by
  have HS := Lib.hid hs; have HD := Lib.hid hx; have HS2 := Lib.hid hs2
  have HB := Lib.hid (Below.refl w.heap.size w)
  have HL := Lib.hid (show key.length = n by have := hs.len; simpa using this)
  have HL2 := Lib.hid (show bs.length = n2 by have := hs2.len; simpa using this)
  clear hs hx hs2
  have HG := Lib.hid (Nat.le_refl w.heap.size)
  obtain ⟨ys, hys⟩ : ∃ ys, ys = (sha key).map B := ⟨_, rfl⟩
  have HY := Lib.hid (show Dig ys (sha key) by rw [hys]; exact Dig.sha _)
  obtain ⟨zs, hzs⟩ : ∃ zs, zs = (sha ((padB key).map (· ^^^ 54) ++ bs)).map B := ⟨_, rfl⟩
  have HZ := Lib.hid (show Dig zs _ by rw [hzs]; exact Dig.sha _)
  have HPL := Lib.hid (padB_length key)
  have hrid := row_id
  have HRI := Lib.hid hrid
  clear hys hzs hrid
  have HAB := Lib.hid (all_bytes bs)
  have HAZ := Lib.hid (all_bytes (sha ((padB key).map (· ^^^ 54) ++ bs)))
  by_cases h64 : 64 < n
  focus
    go_enter Tryd.func28, Tryd.ntmps28
    go_wp2_with (first | (with_reducible refine wpl_alloc (o := ⟨some 4, _, _, _, _, _⟩) rfl rfl zero_id ?_))
    intro w2_ hb2_ hb_ hsz2_
    have HX_ := Lib.hid (at_mk hb2_ len_id)
    clear hb2_ hsz2_
    have HB_ := Lib.hid (HB.out.grow' hb_)
    clear HB
    have HB := HB_
    clear HB_
    have HS_ := Lib.hid (HS.out.grow hb_)
    clear HS
    have HS := HS_
    clear HS_
    have HS2_ := Lib.hid (HS2.out.grow hb_)
    clear HS2
    have HS2 := HS2_
    clear HS2_
    have HR := HX_
    clear hb_ HX_
    try clear w_
    rename World => w_
    go_wp2_with fail
    refine (dof_any _ _ _ HY.out _ HS.out hn).mono ?_
    rintro e w_ ⟨rfl, hb_⟩
    have HB_ := Lib.hid (HB.out.grow' hb_)
    clear HB
    have HB := HB_
    clear HB_
    have HR_ := Lib.hid (HR.out.grow hb_)
    clear HR
    have HR := HR_
    clear HR_
    have HS2_ := Lib.hid (HS2.out.grow hb_)
    clear HS2
    have HS2 := HS2_
    clear HS2_
    clear hb_
    go_wp2_with fail
    refine (tbytes_n HY.out _).mono ?_
    rintro e w_ ⟨AK, nk, cK, rfl, hs_, hb_⟩
    have HB_ := Lib.hid (HB.out.grow' hb_)
    clear HB
    have HB := HB_
    clear HB_
    have HR_ := Lib.hid (HR.out.grow hb_)
    clear HR
    have HR := HR_
    clear HR_
    have HS2_ := Lib.hid (HS2.out.grow hb_)
    clear HS2
    have HS2 := HS2_
    clear HS2_
    clear hb_
    have HK := Lib.hid (show Sl w_ w_.heap.size 1 AK nk ((keyB key).map B) by unfold keyB; rw [if_pos (by rw [HL.out]; exact h64)]; exact hs_)
    clear hs_ HS HL h64
    go_wp2_with fail
    generalize hna : Value.slice A n c = na
    clear hna
    clear hn
  rotate_left
  focus
    have HK := Lib.hid (show Sl w w.heap.size 1 A n ((keyB key).map B) by unfold keyB; rw [if_neg (by rw [HL.out]; exact h64)]; exact HS.out)
    go_enter Tryd.func28, Tryd.ntmps28
    go_wp2_with (first | (with_reducible refine wpl_alloc (o := ⟨some 4, _, _, _, _, _⟩) rfl rfl zero_id ?_))
    intro w2_ hb2_ hb_ hsz2_
    have HX_ := Lib.hid (at_mk hb2_ len_id)
    clear hb2_ hsz2_
    have HB_ := Lib.hid (HB.out.grow' hb_)
    clear HB
    have HB := HB_
    clear HB_
    have HK_ := Lib.hid (HK.out.grow hb_)
    clear HK
    have HK := HK_
    clear HK_
    have HS2_ := Lib.hid (HS2.out.grow hb_)
    clear HS2
    have HS2 := HS2_
    clear HS2_
    have HR := HX_
    clear hb_ HX_
    try clear w_
    rename World => w_
    go_wp2_with fail
    clear HS HL h64
    clear hn
    generalize hnk : n = nk at HK ⊢
    clear hnk
  all_goals
    have HKL := Lib.hid (show (keyB key).length = nk by have := HK.out.len; simpa using this)
    go_loopw [5, 6, 7] (fun v u i wr => ∃ k : Nat, ∃ A' c' O' o', k ≤ 64 ∧ i = .int .i64 k ∧ v = .slice A' k c' ∧ u = .slice O' k o' ∧ Hid (TInv w_ wr A' O' c' o' k (padB key))) (fun _ _ i _ => 64 - (intOf i).toNat)
    case atStart => exact ⟨0, none, 0, none, 0, by omega, rfl, rfl, rfl, Lib.hid ⟨by unfold turnTo; exact World.ownsRow_nil _ _ _ _, by unfold turnTo; exact World.ownsRow_nil _ _ _ _, (by intro g h; cases h), Below.refl _ _⟩⟩
    case round =>
      obtain ⟨k, A3, c3, O3, o3, hk, rfl, rfl, rfl, hinv⟩ := hrel
      by_cases hlt : k < 64
      · by_cases hkn : k < nk
        focus
          obtain ⟨b, off, u, rfl, hb, hu, hc⟩ := (HK.out.grow hinv.out.2.2.2).at_ hkn
          obtain ⟨x, hx⟩ : ∃ x, (keyB key)[k]? = some x := ⟨_, List.getElem?_eq_getElem (by rw [HKL.out]; exact hkn)⟩
          have hu2 : u = .int .u8 (b8 x) := by rw [List.getElem?_map, hx] at hu; cases hu; rfl
          subst hu2
          have HX := Lib.hid (padB_lt key k x hx)
          clear hx hu hb
        rotate_left
        focus
          have HX := Lib.hid (padB_z key k (by rw [HKL.out]; omega) hlt)
        all_goals
          have gk : (k : Int) < 64 := by omega
          go_wp2_with (at_builtin; refine wpl_app1 rfl rfl el_u8 hinv.out.1 rfl (m := 1) rfl rfl ?_ ?_ ?_ hinv.out.2.2.2.size ?_)
          · rfl
          · omega
          · omega
          · intro A4 c4 w4 ho hg hA
            have HM := Lib.hid (t_mid hinv.out hg)
            have HO := Lib.hid ho; have HG4 := Lib.hid hg; have HA4 := Lib.hid hA
            clear ho hg hA
            try clear hc
            go_wp2_with (at_builtin; refine wpl_app1 rfl rfl el_u8 HM.out.1 rfl (m := 1) rfl rfl ?_ ?_ ?_ HM.out.2 ?_)
            · rfl
            · omega
            · omega
            · intro O4 o4 w5 ho5 hg5 hO5
              have HI := Lib.hid (t_step HX.out hinv.out HO.out HG4.out HA4.out ho5 hg5 hO5)
              clear ho5 hg5 hO5 HO HG4 HA4 HM
              go_wp2_with fail
              go_roundw
              case rel => exact ⟨k + 1, A4, c4, O4, o4, by omega, by go_num, rfl, rfl, HI⟩
              case measure => simp [intOf]; omega
      · obtain rfl : k = 64 := by omega
        have HR0 := Lib.hid (HR.out.grow hinv.out.2.2.2)
        have HB0 := Lib.hid (HB.out.grow' hinv.out.2.2.2)
        have HS0 := Lib.hid (HS2.out.grow hinv.out.2.2.2)
        have HI := Lib.hid hinv.out.1
        have HO := Lib.hid hinv.out.2.1
        have HAP := Lib.hid hinv.out.2.2.1
        have HIB := Lib.hid hinv.out.2.2.2
        have gk : ¬ ((64 : Nat) : Int) < 64 := by omega
        clear hinv
        go_wp2_with (at_builtin; refine wpl_apps rfl rfl el_u8 HI.out rfl HS0.out rfl HAB.out (by omega) (by omega) HIB.out.size ?_)
        · intro A4 c4 w4 ho4 hg4 hA4
          have HG4 := Lib.hid (app_below HIB.out HI.out hg4)
          have HO4 := Lib.hid (own_apart HO.out hg4 HAP.out)
          have HI4 := Lib.hid (show Sl w4 w4.heap.size 1 A4 (64 + n2) (((padB key).map (· ^^^ 54) ++ bs).map B) by
            have h1 := Sl.of_own ho4
            rw [turnTo_all _ _ _ (by rw [HPL.out]; exact Nat.le_refl _)] at h1
            rw [List.map_append]; exact h1)
          clear ho4 hg4 hA4 HI HO HIB HS0 HR0 HB0
          go_wp2_with fail
          refine (dof_any _ _ _ HZ.out _ HI4.out (by omega)).mono ?_
          rintro e w5 ⟨rfl, hb5⟩
          have HG5 := Lib.hid (Grow.trans _ _ _ HG4.out hb5)
          have HO5 := Lib.hid (own_below HO4.out hb5)
          clear hb5 HG4 HO4 HI4
          go_wp2_with fail
          refine (tbytes_any HZ.out _).mono ?_
          rintro e w6 ⟨A6, c6, rfl, hs6, hc6, hb6⟩
          have HG6 := Lib.hid (Grow.trans _ _ _ HG5.out hb6)
          have HO6 := Lib.hid (own_below HO5.out hb6)
          have HS6 := Lib.hid hs6
          clear hb6 HG5 HO5 hs6 hc6
          go_wp2_with (at_builtin; refine wpl_apps rfl rfl el_u8 HO6.out rfl HS6.out rfl HAZ.out (by omega) (by omega) HG6.out.size ?_)
          · intro A7 c7 w7 ho7 hg7 hA7
            have HG7 := Lib.hid (app_below HG6.out HO6.out hg7)
            have HI7 := Lib.hid (show Sl w7 w7.heap.size 1 A7 (64 + 32) (((padB key).map (· ^^^ 92) ++ sha ((padB key).map (· ^^^ 54) ++ bs)).map B) by
              have h1 := Sl.of_own ho7
              rw [turnTo_all _ _ _ (by rw [HPL.out]; exact Nat.le_refl _)] at h1
              rw [List.map_append]; exact h1)
            clear ho7 hg7 hA7 HG6 HO6 HS6
            go_wp2_with fail
            refine (dof_any _ _ _ HD.out _ HI7.out (by omega)).mono ?_
            rintro e w8 ⟨rfl, hb8⟩
            have HG8 := Lib.hid (Grow.trans _ _ _ HG7.out hb8)
            have HR8 := Lib.hid (HR.out.grow HG8.out)
            have HB8 := Lib.hid (HB.out.grow' HG8.out)
            clear hb8 HG7 HI7 HG8 HR HB
            have HR := HR8; have HB := HB8; clear HR8 HB8
            go_wp2_with (first | (with_reducible refine wpl_storeb (o := ⟨none, .store _ _ _, _, _, _, _⟩) rfl rfl row_id HR.out.blk rfl rfl HR.out.len HD.out.len HD.out.one ?_))
            intro w2_ hb2_ hg2_ hsz2_
            have HB_ := Lib.hid (put_below HB.out HG.out hg2_)
            have HX_ := Lib.hid (at_mk hb2_ HD.out.len)
            clear hb2_ hg2_ hsz2_ HB HR
            have HB := HB_
            have HR := HX_
            clear HB_ HX_
            try clear w_
            rename World => w_
            go_wp2_with fail
            exact ret_cell rfl HRI.out HR.out.blk rfl HR.out.len rfl ⟨rfl, HB.out⟩

set_option maxRecDepth 100000 in
set_option maxHeartbeats 1000000 in
theorem trsign_any (A A2 : Option Addr) (n c n2 c2 : Nat) (seed bs : List UInt8) (s : Nat) (hs64 : s < 256) {xs : List Value} (hx : Dig xs (tagB (tagB seed [UInt8.ofNat s]) bs)) (w : World) (hs : Sl w w.heap.size 1 A n (seed.map B)) (hs2 : Sl w w.heap.size 1 A2 n2 (bs.map B)) (hn : n ≤ 1099511627776) (hn2 : n2 ≤ 1000000) :
    Calls Tryd.prog 35 #[.slice A n c, .int .i64 s, .slice A2 n2 c2] w fun e w' => e = .returned (.agg xs.toArray) ∧ Below w.heap.size w w' := by
  have HS := Lib.hid hs; have HD := Lib.hid hx; have HS2 := Lib.hid hs2
  have HB := Lib.hid (Below.refl w.heap.size w)
  clear hs hx hs2
  have HG := Lib.hid (Nat.le_refl w.heap.size)
  obtain ⟨ys, hys⟩ : ∃ ys, ys = (tagB seed [UInt8.ofNat s]).map B := ⟨_, rfl⟩
  have HY := Lib.hid (show Dig ys (tagB seed [UInt8.ofNat s]) from ⟨hys, tagB_length _ _⟩)
  have HW := Lib.hid (show Value.int .u8 (s : Int) = B (UInt8.ofNat s) by simp only [B, b8, UInt8.toNat_ofNat']; congr 1; omega)
  have hrid := row_id
  have HRI := Lib.hid hrid
  clear hys hrid
  have q8 : IntKind.u8.wrap (s : Int) = (s : Int) := IntWalk.u8_in _ (by omega)
  go_enter Tryd.func35, Tryd.ntmps35
  go_wp2_with (first | (with_reducible refine wpl_alloc (o := ⟨some 6, _, _, _, _, _⟩) rfl rfl zero_id ?_))
  intro w2_ hb2_ hb_ hsz2_
  have HX_ := Lib.hid (at_mk hb2_ len_id)
  clear hb2_ hsz2_
  have HB_ := Lib.hid (HB.out.grow' hb_)
  clear HB
  have HB := HB_
  clear HB_
  have HS_ := Lib.hid (HS.out.grow hb_)
  clear HS
  have HS := HS_
  clear HS_
  have HS2_ := Lib.hid (HS2.out.grow hb_)
  clear HS2
  have HS2 := HS2_
  clear HS2_
  have HR := HX_
  clear hb_ HX_
  try clear w_
  rename World => w_
  go_wp2_with fail
  generalize hw_ : World.alloc w_ _ = w2_
  obtain ⟨hX_, hb_, hs_⟩ := alloc_eq hw_
  generalize hg_ : w_.heap.size = g at hX_ hs_ ⊢
  have HX := Lib.hid hX_
  clear hw_ hX_
  have HB_ := Lib.hid (HB.out.grow' hb_)
  clear HB
  have HB := HB_
  clear HB_
  have HS_ := Lib.hid (HS.out.grow hb_)
  clear HS
  have HS := HS_
  clear HS_
  have HS2_ := Lib.hid (HS2.out.grow hb_)
  clear HS2
  have HS2 := HS2_
  clear HS2_
  have HR_ := Lib.hid (HR.out.grow hb_)
  clear HR
  have HR := HR_
  clear HR_
  clear hb_ hs_
  clear hg_
  try clear w_
  rename World => w_
  have HS1 := Lib.hid (show Sl w_ w_.heap.size 1 (some ⟨g, 0, none⟩) 1 ([UInt8.ofNat s].map B) by have h := HX.out.sl (sz := 1) (n := 1) rfl; rw [show [Value.int .u8 (s : Int)] = [UInt8.ofNat s].map B by simp [HW.out]] at h; exact h)
  go_wp2_with fail
  refine (trof_any _ _ _ _ _ _ _ _ HY.out _ HS.out HS1.out hn (by omega)).mono ?_
  rintro e w_ ⟨rfl, hb_⟩
  have HB_ := Lib.hid (HB.out.grow' hb_)
  clear HB
  have HB := HB_
  clear HB_
  have HS2_ := Lib.hid (HS2.out.grow hb_)
  clear HS2
  have HS2 := HS2_
  clear HS2_
  have HR_ := Lib.hid (HR.out.grow hb_)
  clear HR
  have HR := HR_
  clear HR_
  clear hb_
  go_wp2_with fail
  refine (tbytes_any HY.out _).mono ?_
  rintro e w_ ⟨A3, c3, rfl, hs_, hc_, hb_⟩
  have HB_ := Lib.hid (HB.out.grow' hb_)
  clear HB
  have HB := HB_
  clear HB_
  have HS2_ := Lib.hid (HS2.out.grow hb_)
  clear HS2
  have HS2 := HS2_
  clear HS2_
  have HR_ := Lib.hid (HR.out.grow hb_)
  clear HR
  have HR := HR_
  clear HR_
  clear hb_
  have HS3 := Lib.hid hs_
  clear hs_ hc_
  go_wp2_with fail
  refine (trof_any _ _ _ _ _ _ _ _ HD.out _ HS3.out HS2.out (by omega) hn2).mono ?_
  rintro e w_ ⟨rfl, hb_⟩
  have HB_ := Lib.hid (HB.out.grow' hb_)
  clear HB
  have HB := HB_
  clear HB_
  have HR_ := Lib.hid (HR.out.grow hb_)
  clear HR
  have HR := HR_
  clear HR_
  clear hb_
  go_wp2_with (first | (with_reducible refine wpl_storeb (o := ⟨none, .store _ _ _, _, _, _, _⟩) rfl rfl row_id HR.out.blk rfl rfl HR.out.len HD.out.len HD.out.one ?_))
  intro w2_ hb2_ hg2_ hsz2_
  have HB_ := Lib.hid (put_below HB.out HG.out hg2_)
  have HX_ := Lib.hid (at_mk hb2_ HD.out.len)
  clear hb2_ hg2_ hsz2_ HB HR
  have HB := HB_
  have HR := HX_
  clear HB_ HX_
  try clear w_
  rename World => w_
  go_wp2_with fail
  exact ret_cell rfl HRI.out HR.out.blk rfl HR.out.len rfl ⟨rfl, HB.out⟩
end Go.Proofs.YtlondennhhffdaaDoor

/- The document's tag: seisinref06.Of, Sign. -/
import Derived.Test.YtphmefhnffoafaaDoorHeaderFollowsB16
import Derived.Test.YtphmefhnffoafaaDoorHeaderFollowsB4
import Derived.Laws.ResultCell
set_option linter.unusedSimpArgs false
/- The document's tag: seisinref06.Of, Sign. -/
namespace Go.Proofs.YtphmefhnffoafaaDoor
open Go.RowKit Go.Shelf
set_option linter.unusedVariables false

/-! ### The document's -/
def Apart (A O : Option Addr) : Prop := ∀ g, A.map Addr.block = some g → O.map Addr.block ≠ some g
theorem Apart.symm {A O : Option Addr} (h : Apart A O) : Apart O A := fun g h1 h2 => h g h2 h1
theorem apart_app {w : World} {base sz n c : Nat} {e : TypeId} {A A1 O : Option Addr} {xs : List Value} (h : Apart A O) (ho : w.ownsRow base e sz (.slice O n c) n xs) (hA : A1.map Addr.block = A.map Addr.block ∨ ∃ j, A1.map Addr.block = some (w.heap.size + j)) : Apart A1 O := by
  intro g h1 h2
  rcases hA with hA | ⟨j, hA⟩
  · exact h g (hA ▸ h1) h2
  · have := (ho.lt g (by cases O <;> simp_all [Value.ownBlock])).2
    rw [hA] at h1
    simp only [Option.some.injEq] at h1
    omega
theorem own_apart {w w2 : World} {base sz n c : Nat} {e : TypeId} {A O : Option Addr} {xs : List Value} (ho : w.ownsRow base e sz (.slice O n c) n xs) (hg : w.grownBy w2 (A.map Addr.block)) (h : Apart A O) : w2.ownsRow base e sz (.slice O n c) n xs :=
  own_kept ho hg fun g hO hh => h g hh.symm (by rw [hO]; rfl)
theorem app_new {w : World} {A A1 : Option Addr} {k : Nat} (h : A1.map Addr.block = A.map Addr.block ∨ ∃ a, A1 = some a ∧ a.block = w.heap.size + k) : A1.map Addr.block = A.map Addr.block ∨ ∃ j, A1.map Addr.block = some (w.heap.size + j) :=
  h.imp_right fun ⟨a, h1, h2⟩ => ⟨k, by rw [h1]; exact congrArg some h2⟩
theorem app_new0 {w : World} {A A1 : Option Addr} (h : A1.map Addr.block = A.map Addr.block ∨ ∃ a, A1 = some a ∧ a.block = w.heap.size) : A1.map Addr.block = A.map Addr.block ∨ ∃ j, A1.map Addr.block = some (w.heap.size + j) :=
  h.imp_right fun ⟨a, h1, h2⟩ => ⟨0, by rw [h1]; exact congrArg some h2⟩

def keyB (key : List UInt8) : List UInt8 := if 64 < key.length then sha key else key
theorem padB_key (key : List UInt8) : padB key = keyB key ++ List.replicate (64 - (keyB key).length) 0 := rfl
theorem keyB_le (key : List UInt8) : (keyB key).length ≤ 64 := by unfold keyB; split; rw [sha_length]; omega; omega
theorem padB_lt (key : List UInt8) (k : Nat) (x : UInt8) (h : (keyB key)[k]? = some x) : (padB key)[k]? = some x := by
  rw [padB_key, List.getElem?_append_left (List.getElem?_eq_some_iff.1 h).1]; exact h
theorem padB_ge (key : List UInt8) (k : Nat) (h : (keyB key).length ≤ k) (hk : k < 64) : (padB key)[k]? = some 0 := by
  rw [padB_key, List.getElem?_append_right h, List.getElem?_replicate, if_pos (by omega)]
def turnTo (p : List UInt8) (m : UInt8) (k : Nat) : List UInt8 := (p.take k).map (· ^^^ m)
theorem turnTo_snoc (p : List UInt8) (m : UInt8) (k : Nat) (x : UInt8) (h : p[k]? = some x) : turnTo p m (k + 1) = turnTo p m k ++ [x ^^^ m] := by
  unfold turnTo; rw [List.take_add_one, h]; simp
theorem turnTo_all (p : List UInt8) (m : UInt8) (k : Nat) (h : p.length ≤ k) : turnTo p m k = p.map (· ^^^ m) := by unfold turnTo; rw [List.take_of_length_le h]
attribute [irreducible] turnTo
theorem xor54 (x : UInt8) : Op.intBits .xor .u8 (b8 x) 54 = pure (.int .u8 (b8 (x ^^^ 54))) := xor_b x 54
theorem xor92 (x : UInt8) : Op.intBits .xor .u8 (b8 x) 92 = pure (.int .u8 (b8 (x ^^^ 92))) := xor_b x 92

/-- The two texts so far. -/
def TInv (w wr : World) (A O : Option Addr) (c o k : Nat) (p : List UInt8) : Prop :=
  wr.ownsRow w.heap.size 5 1 (.slice A k c) k ((turnTo p 54 k).map B) ∧ wr.ownsRow w.heap.size 5 1 (.slice O k o) k ((turnTo p 92 k).map B) ∧ Apart A O ∧ Below w.heap.size w wr
theorem t_step {w wr w2 w3 : World} {A O A1 O1 : Option Addr} {c o c1 o1 k : Nat} {p : List UInt8} {x : UInt8} (hx : p[k]? = some x) (h : TInv w wr A O c o k p)
    (ho : w2.ownsRow w.heap.size 5 1 (.slice A1 (k + 1) c1) (k + 1) ((turnTo p 54 k).map B ++ [B (x ^^^ 54)])) (hg : wr.grownBy w2 (A.map Addr.block)) (hA : A1.map Addr.block = A.map Addr.block ∨ ∃ a, A1 = some a ∧ a.block = wr.heap.size + 1)
    (ho3 : w3.ownsRow w.heap.size 5 1 (.slice O1 (k + 1) o1) (k + 1) ((turnTo p 92 k).map B ++ [B (x ^^^ 92)])) (hg3 : w2.grownBy w3 (O.map Addr.block)) (hO : O1.map Addr.block = O.map Addr.block ∨ ∃ a, O1 = some a ∧ a.block = w2.heap.size + 1) :
    TInv w w3 A1 O1 c1 o1 (k + 1) p := by
  obtain ⟨h1, h2, h3, h4⟩ := h
  have a1 : Apart A1 O := apart_app h3 h2 (app_new hA)
  have o2 := own_apart h2 hg h3
  have a2 : Apart O1 A1 := apart_app a1.symm ho (app_new hO)
  refine ⟨?_, ?_, a2.symm, app_below (app_below h4 h1 hg) o2 hg3⟩
  · rw [turnTo_snoc p 54 k x hx, List.map_append]; exact own_apart ho hg3 a1.symm
  · rw [turnTo_snoc p 92 k x hx, List.map_append]; exact ho3
theorem t_mid {w wr w2 : World} {A O : Option Addr} {c o k : Nat} {p : List UInt8} (h : TInv w wr A O c o k p)
    (hg : wr.grownBy w2 (A.map Addr.block)) : w2.ownsRow w.heap.size 5 1 (.slice O k o) k ((turnTo p 92 k).map B) ∧ w.heap.size ≤ w2.heap.size :=
  ⟨own_apart h.2.1 hg h.2.2.1, Nat.le_trans h.2.2.2.size hg.size⟩

def zero8 : UInt8 := 0
theorem xor54z : Op.intBits .xor .u8 0 54 = pure (.int .u8 (b8 (zero8 ^^^ 54))) := xor_b 0 54
theorem xor92z : Op.intBits .xor .u8 0 92 = pure (.int .u8 (b8 (zero8 ^^^ 92))) := xor_b 0 92
theorem padB_z (key : List UInt8) (k : Nat) (h : (keyB key).length ≤ k) (hk : k < 64) : (padB key)[k]? = some zero8 := padB_ge key k h hk
attribute [irreducible] zero8
theorem tbytes_n {xs : List Value} {d : List UInt8} (hx : Dig xs d) (w : World) :
    Calls Tryd.prog 83 #[.agg xs.toArray] w fun e w' => ∃ A' n' c', e = .returned (.slice A' n' c') ∧ Sl w' w'.heap.size 1 A' n' (d.map B) ∧ Below w.heap.size w w' :=
  (tbytes_any hx w).mono fun e w' ⟨A', c', h1, h2, h3, h4⟩ => ⟨A', 32, c', h1, h2, h4⟩
attribute [local go_sem high] xor54 xor92 xor54z xor92z
set_option maxRecDepth 100000 in
set_option maxHeartbeats 2000000 in
theorem trof_any (A A2 : Option Addr) (n c n2 c2 : Nat) (key bs : List UInt8) {xs : List Value} (hx : Dig xs (tagB key bs)) (w : World) (hs : Sl w w.heap.size 1 A n (key.map B)) (hs2 : Sl w w.heap.size 1 A2 n2 (bs.map B)) (hn : n ≤ 1099511627776) (hn2 : n2 ≤ 1000000) :
    Calls Tryd.prog 131 #[.slice A n c, .slice A2 n2 c2] w fun e w' => e = .returned (.agg xs.toArray) ∧ Below w.heap.size w w' := by
  have HS := Lib.hid hs; have HD := Lib.hid hx; have HS2 := Lib.hid hs2
  have HB := Lib.hid (Below.refl w.heap.size w)
  have HL := Lib.hid (show key.length = n by have := hs.len; simpa using this)
  have HL2 := Lib.hid (show bs.length = n2 by have := hs2.len; simpa using this)
  clear hs hx hs2
  have HG := Lib.hid (Nat.le_refl w.heap.size)
  obtain ⟨ys, hys⟩ : ∃ ys, ys = (sha key).map B := ⟨_, rfl⟩
  have HY := Lib.hid (show Dig ys (sha key) by rw [hys]; exact Dig.sha _)
  obtain ⟨zs, hzs⟩ : ∃ zs, zs = (sha ((padB key).map (· ^^^ 54) ++ bs)).map B := ⟨_, rfl⟩
  have HZ := Lib.hid (show Dig zs _ by rw [hzs]; exact Dig.sha _)
  have HPL := Lib.hid (padB_length key)
  have hrid := row_id
  have HRI := Lib.hid hrid
  clear hys hzs hrid
  have HAB := Lib.hid (all_bytes bs)
  have HAZ := Lib.hid (all_bytes (sha ((padB key).map (· ^^^ 54) ++ bs)))
  by_cases h64 : 64 < n
  focus
    go_enter Tryd.func131, Tryd.ntmps131
    go_wp2_with (first | (with_reducible refine wpl_alloc (o := ⟨some 4, _, _, _, _, _⟩) rfl rfl zero_id ?_))
    intro w2_ hb2_ hb_ hsz2_
    have HX_ := Lib.hid (at_mk hb2_ len_id)
    clear hb2_ hsz2_
    have HB_ := Lib.hid (HB.out.grow' hb_)
    clear HB
    have HB := HB_
    clear HB_
    have HS_ := Lib.hid (HS.out.grow hb_)
    clear HS
    have HS := HS_
    clear HS_
    have HS2_ := Lib.hid (HS2.out.grow hb_)
    clear HS2
    have HS2 := HS2_
    clear HS2_
    have HR := HX_
    clear hb_ HX_
    try clear w_
    rename World => w_
    go_wp2_with fail
    refine (dof_any _ _ _ HY.out _ HS.out hn).mono ?_
    rintro e w_ ⟨rfl, hb_⟩
    have HB_ := Lib.hid (HB.out.grow' hb_)
    clear HB
    have HB := HB_
    clear HB_
    have HR_ := Lib.hid (HR.out.grow hb_)
    clear HR
    have HR := HR_
    clear HR_
    have HS2_ := Lib.hid (HS2.out.grow hb_)
    clear HS2
    have HS2 := HS2_
    clear HS2_
    clear hb_
    go_wp2_with fail
    refine (tbytes_n HY.out _).mono ?_
    rintro e w_ ⟨AK, nk, cK, rfl, hs_, hb_⟩
    have HB_ := Lib.hid (HB.out.grow' hb_)
    clear HB
    have HB := HB_
    clear HB_
    have HR_ := Lib.hid (HR.out.grow hb_)
    clear HR
    have HR := HR_
    clear HR_
    have HS2_ := Lib.hid (HS2.out.grow hb_)
    clear HS2
    have HS2 := HS2_
    clear HS2_
    clear hb_
    have HK := Lib.hid (show Sl w_ w_.heap.size 1 AK nk ((keyB key).map B) by unfold keyB; rw [if_pos (by rw [HL.out]; exact h64)]; exact hs_)
    clear hs_ HS HL h64
    go_wp2_with fail
    generalize hna : Value.slice A n c = na
    clear hna
    clear hn
  rotate_left
  focus
    have HK := Lib.hid (show Sl w w.heap.size 1 A n ((keyB key).map B) by unfold keyB; rw [if_neg (by rw [HL.out]; exact h64)]; exact HS.out)
    go_enter Tryd.func131, Tryd.ntmps131
    go_wp2_with (first | (with_reducible refine wpl_alloc (o := ⟨some 4, _, _, _, _, _⟩) rfl rfl zero_id ?_))
    intro w2_ hb2_ hb_ hsz2_
    have HX_ := Lib.hid (at_mk hb2_ len_id)
    clear hb2_ hsz2_
    have HB_ := Lib.hid (HB.out.grow' hb_)
    clear HB
    have HB := HB_
    clear HB_
    have HK_ := Lib.hid (HK.out.grow hb_)
    clear HK
    have HK := HK_
    clear HK_
    have HS2_ := Lib.hid (HS2.out.grow hb_)
    clear HS2
    have HS2 := HS2_
    clear HS2_
    have HR := HX_
    clear hb_ HX_
    try clear w_
    rename World => w_
    go_wp2_with fail
    clear HS HL h64
    clear hn
    generalize hnk : n = nk at HK ⊢
    clear hnk
  all_goals
    have HKL := Lib.hid (show (keyB key).length = nk by have := HK.out.len; simpa using this)
    go_loopw [5, 6, 7] (fun v u i wr => ∃ k : Nat, ∃ A' c' O' o', k ≤ 64 ∧ i = .int .i64 k ∧ v = .slice A' k c' ∧ u = .slice O' k o' ∧ Hid (TInv w_ wr A' O' c' o' k (padB key))) (fun _ _ i _ => 64 - (intOf i).toNat)
    case atStart => exact ⟨0, none, 0, none, 0, by omega, rfl, rfl, rfl, Lib.hid ⟨by unfold turnTo; exact World.ownsRow_nil _ _ _ _, by unfold turnTo; exact World.ownsRow_nil _ _ _ _, (by intro g h; cases h), Below.refl _ _⟩⟩
    case round =>
      obtain ⟨k, A3, c3, O3, o3, hk, rfl, rfl, rfl, hinv⟩ := hrel
      by_cases hlt : k < 64
      · by_cases hkn : k < nk
        focus
          obtain ⟨b, off, u, rfl, hb, hu, hc⟩ := (HK.out.grow hinv.out.2.2.2).at_ hkn
          obtain ⟨x, hx⟩ : ∃ x, (keyB key)[k]? = some x := ⟨_, List.getElem?_eq_getElem (by rw [HKL.out]; exact hkn)⟩
          have hu2 : u = .int .u8 (b8 x) := by rw [List.getElem?_map, hx] at hu; cases hu; rfl
          subst hu2
          have HX := Lib.hid (padB_lt key k x hx)
          clear hx hu hb
        rotate_left
        focus
          have HX := Lib.hid (padB_z key k (by rw [HKL.out]; omega) hlt)
        all_goals
          have gk : (k : Int) < 64 := by omega
          go_wp2_with (at_builtin; refine wpl_app1 rfl rfl el_u8 hinv.out.1 rfl (m := 1) rfl rfl ?_ ?_ ?_ hinv.out.2.2.2.size ?_)
          · rfl
          · omega
          · omega
          · intro A4 c4 w4 ho hg hA
            have HM := Lib.hid (t_mid hinv.out hg)
            have HO := Lib.hid ho; have HG4 := Lib.hid hg; have HA4 := Lib.hid hA
            clear ho hg hA
            try clear hc
            go_wp2_with (at_builtin; refine wpl_app1 rfl rfl el_u8 HM.out.1 rfl (m := 1) rfl rfl ?_ ?_ ?_ HM.out.2 ?_)
            · rfl
            · omega
            · omega
            · intro O4 o4 w5 ho5 hg5 hO5
              have HI := Lib.hid (t_step HX.out hinv.out HO.out HG4.out HA4.out ho5 hg5 hO5)
              clear ho5 hg5 hO5 HO HG4 HA4 HM
              go_wp2_with fail
              go_roundw
              case rel => exact ⟨k + 1, A4, c4, O4, o4, by omega, by go_num, rfl, rfl, HI⟩
              case measure => simp [intOf]; omega
      · obtain rfl : k = 64 := by omega
        have HR0 := Lib.hid (HR.out.grow hinv.out.2.2.2)
        have HB0 := Lib.hid (HB.out.grow' hinv.out.2.2.2)
        have HS0 := Lib.hid (HS2.out.grow hinv.out.2.2.2)
        have HI := Lib.hid hinv.out.1
        have HO := Lib.hid hinv.out.2.1
        have HAP := Lib.hid hinv.out.2.2.1
        have HIB := Lib.hid hinv.out.2.2.2
        have gk : ¬ ((64 : Nat) : Int) < 64 := by omega
        clear hinv
        go_wp2_with (at_builtin; refine wpl_apps rfl rfl el_u8 HI.out rfl HS0.out rfl HAB.out (by omega) (by omega) HIB.out.size ?_)
        · intro A4 c4 w4 ho4 hg4 hA4
          have HG4 := Lib.hid (app_below HIB.out HI.out hg4)
          have HO4 := Lib.hid (own_apart HO.out hg4 HAP.out)
          have HI4 := Lib.hid (show Sl w4 w4.heap.size 1 A4 (64 + n2) (((padB key).map (· ^^^ 54) ++ bs).map B) by
            have h1 := Sl.of_own ho4
            rw [turnTo_all _ _ _ (by rw [HPL.out]; exact Nat.le_refl _)] at h1
            rw [List.map_append]; exact h1)
          clear ho4 hg4 hA4 HI HO HIB HS0 HR0 HB0
          go_wp2_with fail
          refine (dof_any _ _ _ HZ.out _ HI4.out (by omega)).mono ?_
          rintro e w5 ⟨rfl, hb5⟩
          have HG5 := Lib.hid (Grow.trans _ _ _ HG4.out hb5)
          have HO5 := Lib.hid (own_below HO4.out hb5)
          clear hb5 HG4 HO4 HI4
          go_wp2_with fail
          refine (tbytes_any HZ.out _).mono ?_
          rintro e w6 ⟨A6, c6, rfl, hs6, hc6, hb6⟩
          have HG6 := Lib.hid (Grow.trans _ _ _ HG5.out hb6)
          have HO6 := Lib.hid (own_below HO5.out hb6)
          have HS6 := Lib.hid hs6
          clear hb6 HG5 HO5 hs6 hc6
          go_wp2_with (at_builtin; refine wpl_apps rfl rfl el_u8 HO6.out rfl HS6.out rfl HAZ.out (by omega) (by omega) HG6.out.size ?_)
          · intro A7 c7 w7 ho7 hg7 hA7
            have HG7 := Lib.hid (app_below HG6.out HO6.out hg7)
            have HI7 := Lib.hid (show Sl w7 w7.heap.size 1 A7 (64 + 32) (((padB key).map (· ^^^ 92) ++ sha ((padB key).map (· ^^^ 54) ++ bs)).map B) by
              have h1 := Sl.of_own ho7
              rw [turnTo_all _ _ _ (by rw [HPL.out]; exact Nat.le_refl _)] at h1
              rw [List.map_append]; exact h1)
            clear ho7 hg7 hA7 HG6 HO6 HS6
            go_wp2_with fail
            refine (dof_any _ _ _ HD.out _ HI7.out (by omega)).mono ?_
            rintro e w8 ⟨rfl, hb8⟩
            have HG8 := Lib.hid (Grow.trans _ _ _ HG7.out hb8)
            have HR8 := Lib.hid (HR.out.grow HG8.out)
            have HB8 := Lib.hid (HB.out.grow' HG8.out)
            clear hb8 HG7 HI7 HG8 HR HB
            have HR := HR8; have HB := HB8; clear HR8 HB8
            go_wp2_with (first | (with_reducible refine wpl_storeb (o := ⟨none, .store _ _ _, _, _, _, _⟩) rfl rfl row_id HR.out.blk rfl rfl HR.out.len HD.out.len HD.out.one ?_))
            intro w2_ hb2_ hg2_ hsz2_
            have HB_ := Lib.hid (put_below HB.out HG.out hg2_)
            have HX_ := Lib.hid (at_mk hb2_ HD.out.len)
            clear hb2_ hg2_ hsz2_ HB HR
            have HB := HB_
            have HR := HX_
            clear HB_ HX_
            try clear w_
            rename World => w_
            go_wp2_with fail
            exact ret_cell rfl HRI.out HR.out.blk rfl HR.out.len rfl ⟨rfl, HB.out⟩

set_option maxRecDepth 100000 in
set_option maxHeartbeats 1000000 in
theorem trsign_any (A A2 : Option Addr) (n c n2 c2 : Nat) (seed bs : List UInt8) (s : Nat) (hs64 : s < 256) {xs : List Value} (hx : Dig xs (tagB (tagB seed [UInt8.ofNat s]) bs)) (w : World) (hs : Sl w w.heap.size 1 A n (seed.map B)) (hs2 : Sl w w.heap.size 1 A2 n2 (bs.map B)) (hn : n ≤ 1099511627776) (hn2 : n2 ≤ 1000000) :
    Calls Tryd.prog 94 #[.slice A n c, .int .i64 s, .slice A2 n2 c2] w fun e w' => e = .returned (.agg xs.toArray) ∧ Below w.heap.size w w' := by
  have HS := Lib.hid hs; have HD := Lib.hid hx; have HS2 := Lib.hid hs2
  have HB := Lib.hid (Below.refl w.heap.size w)
  clear hs hx hs2
  have HG := Lib.hid (Nat.le_refl w.heap.size)
  obtain ⟨ys, hys⟩ : ∃ ys, ys = (tagB seed [UInt8.ofNat s]).map B := ⟨_, rfl⟩
  have HY := Lib.hid (show Dig ys (tagB seed [UInt8.ofNat s]) from ⟨hys, tagB_length _ _⟩)
  have HW := Lib.hid (show Value.int .u8 (s : Int) = B (UInt8.ofNat s) by simp only [B, b8, UInt8.toNat_ofNat']; congr 1; omega)
  have hrid := row_id
  have HRI := Lib.hid hrid
  clear hys hrid
  have q8 : IntKind.u8.wrap (s : Int) = (s : Int) := IntWalk.u8_in _ (by omega)
  go_enter Tryd.func94, Tryd.ntmps94
  go_wp2_with (first | (with_reducible refine wpl_alloc (o := ⟨some 6, _, _, _, _, _⟩) rfl rfl zero_id ?_))
  intro w2_ hb2_ hb_ hsz2_
  have HX_ := Lib.hid (at_mk hb2_ len_id)
  clear hb2_ hsz2_
  have HB_ := Lib.hid (HB.out.grow' hb_)
  clear HB
  have HB := HB_
  clear HB_
  have HS_ := Lib.hid (HS.out.grow hb_)
  clear HS
  have HS := HS_
  clear HS_
  have HS2_ := Lib.hid (HS2.out.grow hb_)
  clear HS2
  have HS2 := HS2_
  clear HS2_
  have HR := HX_
  clear hb_ HX_
  try clear w_
  rename World => w_
  go_wp2_with fail
  generalize hw_ : World.alloc w_ _ = w2_
  obtain ⟨hX_, hb_, hs_⟩ := alloc_eq hw_
  generalize hg_ : w_.heap.size = g at hX_ hs_ ⊢
  have HX := Lib.hid hX_
  clear hw_ hX_
  have HB_ := Lib.hid (HB.out.grow' hb_)
  clear HB
  have HB := HB_
  clear HB_
  have HS_ := Lib.hid (HS.out.grow hb_)
  clear HS
  have HS := HS_
  clear HS_
  have HS2_ := Lib.hid (HS2.out.grow hb_)
  clear HS2
  have HS2 := HS2_
  clear HS2_
  have HR_ := Lib.hid (HR.out.grow hb_)
  clear HR
  have HR := HR_
  clear HR_
  clear hb_ hs_
  clear hg_
  try clear w_
  rename World => w_
  have HS1 := Lib.hid (show Sl w_ w_.heap.size 1 (some ⟨g, 0, none⟩) 1 ([UInt8.ofNat s].map B) by have h := HX.out.sl (sz := 1) (n := 1) rfl; rw [show [Value.int .u8 (s : Int)] = [UInt8.ofNat s].map B by simp [HW.out]] at h; exact h)
  go_wp2_with fail
  refine (trof_any _ _ _ _ _ _ _ _ HY.out _ HS.out HS1.out hn (by omega)).mono ?_
  rintro e w_ ⟨rfl, hb_⟩
  have HB_ := Lib.hid (HB.out.grow' hb_)
  clear HB
  have HB := HB_
  clear HB_
  have HS2_ := Lib.hid (HS2.out.grow hb_)
  clear HS2
  have HS2 := HS2_
  clear HS2_
  have HR_ := Lib.hid (HR.out.grow hb_)
  clear HR
  have HR := HR_
  clear HR_
  clear hb_
  go_wp2_with fail
  refine (tbytes_any HY.out _).mono ?_
  rintro e w_ ⟨A3, c3, rfl, hs_, hc_, hb_⟩
  have HB_ := Lib.hid (HB.out.grow' hb_)
  clear HB
  have HB := HB_
  clear HB_
  have HS2_ := Lib.hid (HS2.out.grow hb_)
  clear HS2
  have HS2 := HS2_
  clear HS2_
  have HR_ := Lib.hid (HR.out.grow hb_)
  clear HR
  have HR := HR_
  clear HR_
  clear hb_
  have HS3 := Lib.hid hs_
  clear hs_ hc_
  go_wp2_with fail
  refine (trof_any _ _ _ _ _ _ _ _ HD.out _ HS3.out HS2.out (by omega) hn2).mono ?_
  rintro e w_ ⟨rfl, hb_⟩
  have HB_ := Lib.hid (HB.out.grow' hb_)
  clear HB
  have HB := HB_
  clear HB_
  have HR_ := Lib.hid (HR.out.grow hb_)
  clear HR
  have HR := HR_
  clear HR_
  clear hb_
  go_wp2_with (first | (with_reducible refine wpl_storeb (o := ⟨none, .store _ _ _, _, _, _, _⟩) rfl rfl row_id HR.out.blk rfl rfl HR.out.len HD.out.len HD.out.one ?_))
  intro w2_ hb2_ hg2_ hsz2_
  have HB_ := Lib.hid (put_below HB.out HG.out hg2_)
  have HX_ := Lib.hid (at_mk hb2_ HD.out.len)
  clear hb2_ hg2_ hsz2_ HB HR
  have HB := HB_
  have HR := HX_
  clear HB_ HX_
  try clear w_
  rename World => w_
  go_wp2_with fail
  exact ret_cell rfl HRI.out HR.out.blk rfl HR.out.len rfl ⟨rfl, HB.out⟩
end Go.Proofs.YtphmefhnffoafaaDoor

/- Contracts of layer 6: the ring. -/
namespace Go.Proofs.YtphmefhnffoafaaDoor
open Go.RowKit Go.Shelf
set_option linter.unusedVariables false

theorem ret_cell2 {P : Program} {w : World} {a : Act} {fn : Func} {p u : Tmp} {ty : TypeId} (h : fn.results = #[.cell p ty, .tmp u]) {n : Nat} (hT : RowT P ty n) {g : Nat} {t : TypeId} {cs : List Value} (hb : Blk w g t cs) (hp : a.tmps.getD p undef = .pointer (some ⟨g, 0, none⟩)) (hn : cs.length = n) (hd : a.defers = [])
    {v : Value} (hv : a.tmps.getD u undef = v) {R : Ending → World → Prop} (hR : R (.returned (.tuple #[.agg cs.toArray, v])) w) : bodyPost P fn R .ret a w := by
  obtain ⟨d, hu, hdd, hi⟩ := hT
  refine bodyPost_ret ?_ hd hR
  rw [results_cell_tmp h, hp, hv]
  have hrun := run_loadVar_row (P := P) w g t ty cs.toArray (0, 0) d hb hu (by revert hdd; cases d <;> simp) (by rw [hi]; simp [hn])
  simp only [asAddr, Sem.run_pure, Result.andThen_ok, hrun]
theorem info_id : (Tryd.prog.info? 23).map (fun i => (i.zero, i.size, i.bytes)) = some (some (.agg (List.replicate 32 (B 0)).toArray), 32, 32) := by kernel_rfl
theorem el_id : ElemT Tryd.prog 72 23 32 32 := elemT Tryd.underlying72 info_id rfl (by omega)
theorem fold_set_aux : ∀ (ys : List Value) (k : Nat) (z : Array Value), z.size = k + ys.length → ((ys.zipIdx k).foldl (fun cs x => cs.setIfInBounds x.2 x.1) z).toList = z.toList.take k ++ ys
  | [], k, z, h => by
    simp only [List.zipIdx_nil, List.foldl_nil, List.append_nil]
    rw [List.take_of_length_le (by simpa using Nat.le_of_eq h)]
  | y :: ys, k, z, h => by
    rw [List.zipIdx_cons, List.foldl_cons, fold_set_aux ys (k + 1) _ (by simp only [Array.size_setIfInBounds, List.length_cons] at *; omega)]
    simp only [Array.toList_setIfInBounds]
    have hk : k < z.toList.length := by simp only [List.length_cons, Array.length_toList] at *; omega
    rw [List.take_add_one, List.getElem?_set_self hk, Option.toList_some, List.take_set_of_le (Nat.le_refl _), List.append_assoc]
    rfl
theorem fold_set (z : Array Value) (ys : List Value) (h : z.size = ys.length) : (ys.zipIdx.foldl (fun cs x => cs.setIfInBounds x.2 x.1) z).toList = ys := by
  have := fold_set_aux ys 0 z (by omega)
  simpa using this
def ringB (seed : List UInt8) (n : Nat) : List (List UInt8) := (List.range n).map fun i => tagB seed [UInt8.ofNat i]
def idCells (ds : List (List UInt8)) : List Value := ds.flatMap (·.map B)
theorem idCells_snoc (ds : List (List UInt8)) (d : List UInt8) : idCells (ds ++ [d]) = idCells ds ++ d.map B := by unfold idCells; simp
theorem ringB_succ (seed : List UInt8) (k : Nat) : ringB seed (k + 1) = ringB seed k ++ [tagB seed [UInt8.ofNat k]] := by unfold ringB; rw [List.range_succ, List.map_append]; rfl
theorem ringB_len (seed : List UInt8) (k : Nat) : (ringB seed k).length = k := by unfold ringB; simp
theorem ringB_all (seed : List UInt8) (k : Nat) : ∀ d ∈ ringB seed k, d.length = 32 := by
  intro d hd; unfold ringB at hd; obtain ⟨i, _, rfl⟩ := List.mem_map.1 hd; exact tagB_length _ _
theorem ringB_at (seed : List UInt8) {n k : Nat} (hk : k < n) : (ringB seed n)[k]? = some (tagB seed [UInt8.ofNat k]) := by
  unfold ringB; rw [List.getElem?_map, List.getElem?_range hk]; rfl
/-- A cell that holds a ring's keys. -/
def RCell (w : World) (g : Nat) (A : Option Addr) (n c : Nat) : Prop := Blk w g 136 [.slice A n c]
theorem RCell.grow {w w' : World} {g : Nat} {A : Option Addr} {n c : Nat} (h : RCell w g A n c) (k : Grow w w') : RCell w' g A n c := Blk.grow h k
theorem RCell.cell {w : World} {g : Nat} {A : Option Addr} {n c : Nat} (h : RCell w g A n c) : w.cell? ⟨g, 0, none⟩ = some (.slice A n c) := Blk.at_ h rfl
/-- Digests one behind the other. -/
def Ids (w : World) (A : Option Addr) (n c : Nat) (ds : List (List UInt8)) : Prop := Sl w w.heap.size 32 A n (idCells ds) ∧ ds.length = n ∧ (∀ d ∈ ds, d.length = 32) ∧ n ≤ c
theorem Ids.grow {w w' : World} {A : Option Addr} {n c : Nat} {ds : List (List UInt8)} (h : Ids w A n c ds) (k : Grow w w') : Ids w' A n c ds := ⟨h.1.grow k, h.2⟩
theorem Ids.key {w : World} {A : Option Addr} {n c k : Nat} {ds : List (List UInt8)} (h : Ids w A n c ds) (hk : k < n) : ∃ b off d, A = some ⟨b, off, none⟩ ∧ ds[k]? = some d ∧ d.length = 32 ∧ b < w.heap.size ∧ ∀ j u, (d.map B)[j]? = some u → w.cell? ⟨b, off + k * 32 + j, none⟩ = some u := by
  obtain ⟨h1, h2, h3, h4⟩ := h
  obtain ⟨b, off, e, hb, hc⟩ := h1.2 (by omega)
  have hlen : ∀ x ∈ ds, (x.map B).length = 32 := fun x hx => by rw [List.length_map]; exact h3 x hx
  have hd : ds[k]? = some (ds[k]'(by omega)) := List.getElem?_eq_getElem (by omega)
  refine ⟨b, off, _, e, hd, h3 _ (List.mem_of_getElem? hd), hb, fun j u hu => ?_⟩
  have hj : j < 32 := by have := (List.getElem?_eq_some_iff.1 hu).1; rw [List.length_map, h3 _ (List.mem_of_getElem? hd)] at this; exact this
  have hfl : (idCells ds).length = ds.length * 32 := flat_len hlen
  have hi : k * 32 + j < (idCells ds).length := by rw [hfl]; omega
  obtain ⟨x, hx, hxj⟩ := flat_at hlen (by omega) (List.getElem?_eq_getElem hi)
  have e1 : (k * 32 + j) / 32 = k := by omega
  have e2 : (k * 32 + j) % 32 = j := by omega
  rw [e1, hd] at hx
  cases hx
  rw [e2, hu] at hxj
  have := hc (k * 32 + j) u (by rw [List.getElem?_eq_getElem hi]; exact hxj.symm)
  rw [Nat.add_assoc]; exact this
theorem Ids.sl {w : World} {b off n c k : Nat} {ds : List (List UInt8)} {d : List UInt8} (h : Ids w (some ⟨b, off, none⟩) n c ds) (hk : ds[k]? = some d) : Sl w w.heap.size 1 (some ⟨b, off + k * 32, none⟩) 32 (d.map B) := by
  have hkn : k < n := by have := (List.getElem?_eq_some_iff.1 hk).1; rw [h.2.1] at this; exact this
  obtain ⟨b', off', d', e, h1, h2, h3, h4⟩ := h.key hkn
  cases e
  rw [hk] at h1; cases h1
  exact ⟨by rw [List.length_map, h2], fun _ => ⟨_, _, rfl, h3, h4⟩⟩
def RingAt (w : World) (g : Nat) (A : Option Addr) (n c : Nat) (ds : List (List UInt8)) : Prop := RCell w g A n c ∧ Ids w A n c ds
theorem RingAt.grow {w w' : World} {g : Nat} {A : Option Addr} {n c : Nat} {ds : List (List UInt8)} (h : RingAt w g A n c ds) (k : Grow w w') : RingAt w' g A n c ds := ⟨h.1.grow k, h.2.grow k⟩
theorem RingAt.cell {w : World} {g : Nat} {A : Option Addr} {n c : Nat} {ds : List (List UInt8)} (h : RingAt w g A n c ds) : w.cell? ⟨g, 0, none⟩ = some (.slice A n c) := h.1.cell

theorem keys_no (A : Option Addr) (n c : Nat) (s : Int) (w : World) (hs : s < 1 ∨ 64 < s) :
    Calls Tryd.prog 46 #[.slice A n c, .int .i64 s] w fun e w' => e = .returned (.pointer none) ∧ Below w.heap.size w w' := by
  rcases hs with hs | hs
  · have g1 : decide (s < 1) = true := by simpa using hs
    go_enter Tryd.func46, Tryd.ntmps46
    go_wp2_with fail
    go_ret
    exact ⟨rfl, Below.refl _ _⟩
  · have g1 : decide (s < 1) = false := by simp; omega
    have g2 : decide (64 < s) = true := by simpa using hs
    go_enter Tryd.func46, Tryd.ntmps46
    go_wp2_with fail
    go_ret
    exact ⟨rfl, Below.refl _ _⟩

def KInv (w wr : World) (A : Option Addr) (c k : Nat) (seed : List UInt8) : Prop :=
  RCell wr w.heap.size A k c ∧ wr.ownsRow (w.heap.size + 1) 23 32 (.slice A k c) k (idCells (ringB seed k)) ∧ Below w.heap.size w wr
set_option maxRecDepth 100000 in
set_option maxHeartbeats 1000000 in
theorem keys_yes (A : Option Addr) (n c N : Nat) (seed : List UInt8) (w : World) (hs : Sl w w.heap.size 1 A n (seed.map B)) (hc : n ≤ c) (hn : n ≤ 1099511627776) (h1 : 1 ≤ N) (h64 : N ≤ 64) (ht : Tabs w) :
    Calls Tryd.prog 46 #[.slice A n c, .int .i64 N] w fun e w' => ∃ g A' c', e = .returned (.pointer (some ⟨g, 0, none⟩)) ∧ RingAt w' g A' N c' (ringB seed N) ∧ Below w.heap.size w w' := by
  have HS := Lib.hid hs; have HT := Lib.hid ht
  have HB := Lib.hid (Below.refl w.heap.size w)
  clear hs ht
  have g1 : decide ((N : Int) < 1) = false := by simp; omega
  have g2 : decide (64 < (N : Int)) = false := by simp; omega
  have hst := alloc_new w #[.slice none 0 0] 136
  have HST := Lib.hid hst
  clear hst
  go_enter Tryd.func46, Tryd.ntmps46
  go_wp2_with fail
  go_loopw [16] (fun i wr => ∃ k : Nat, ∃ A' c', k ≤ N ∧ i = .int .i64 k ∧ Hid (KInv w wr A' c' k seed)) (fun i _ => N - (intOf i).toNat)
  case atStart => exact ⟨0, none, 0, by omega, rfl, Lib.hid ⟨HST.out.1, by simpa [ringB, idCells] using World.ownsRow_nil _ _ _ _, HST.out.2.1⟩⟩
  case round =>
    obtain ⟨k, A3, c3, hk, rfl, hinv⟩ := hrel
    clear HB HST
    by_cases hlt : k < N
    · have q8 : IntKind.u8.wrap (k : Int) = (k : Int) := IntWalk.u8_in _ (by omega)
      have HB := Lib.hid hinv.out.2.2
      have HK1 := Lib.hid hinv.out.1
      have HK2 := Lib.hid hinv.out.2.1
      have HS1 := Lib.hid (HS.out.grow HB.out)
      have HT1 := Lib.hid (HT.out.grow HB.out)
      obtain ⟨ys, hys⟩ : ∃ ys, ys = (tagB seed [UInt8.ofNat k]).map B := ⟨_, rfl⟩
      have HY := Lib.hid (show Dig ys (tagB seed [UInt8.ofNat k]) from ⟨hys, tagB_length _ _⟩)
      have HW := Lib.hid (show Value.int .u8 (k : Int) = B (UInt8.ofNat k) by simp only [B, b8, UInt8.toNat_ofNat']; congr 1; omega)
      clear hinv hys
      try go_wp2_with fail
      repeat' (first | (with_reducible refine wp_plan (id := 7) Grow [0,0,0,0,1,0,0,0,4,4,4,3,0,0,3] (.get 0 (.get 1 (.get 2 (.get 3 (.get 4 (.get 5 (.get 6 (.get 7 (.act 8 (.act 9 (.act 10 (.act 11 (.get 12 (.get 13 (.act 14 .done))))))))))))))) (by kernel_rfl) (by kernel_rfl) Grow.refl Grow.trans ?_) | go_values | go_skip | go_guarded | go_step | go_upon | go_back)
      intro w_ hd_
      have hb_ := hd_.grow
      have HB_ := Lib.hid (HB.out.grow' hb_)
      clear HB
      have HB := HB_
      clear HB_
      have HS1_ := Lib.hid (HS1.out.grow hb_)
      clear HS1
      have HS1 := HS1_
      clear HS1_
      have HT1_ := Lib.hid (HT1.out.grow hb_)
      clear HT1
      have HT1 := HT1_
      clear HT1_
      have HK1_ := Lib.hid (HK1.out.grow hb_)
      clear HK1
      have HK1 := HK1_
      clear HK1_
      have HK2_ := Lib.hid (HK2.out.grow hb_)
      clear HK2
      have HK2 := HK2_
      clear HK2_
      clear hb_ hd_
      repeat (first | (refine pl_calm rfl rfl (by first | exact wanted_none rfl | (go_simp; done) | rfl) (fun w_ => by first | (go_simp; rfl) | (go_simp; done) | rfl) (fun K hK => ?_); go_simp; refine hK _ _ ?_; clear hK K) | (refine pl_skip rfl (by first | (go_simp; done) | rfl) (fun K hK => ?_); go_simp; refine hK _ _ ?_; clear hK K) | (refine pl_skipa rfl (by first | (go_simp; done) | rfl) (fun K hK => ?_); go_simp; refine hK _ _ ?_; clear hK K) | (refine pl_load rfl rfl (by first | exact wanted_none rfl | (go_simp; done) | rfl) rfl (by first | rfl | (go_simp; rfl)) (by kernel_rfl) (by first | exact HK1.out.cell) (fun K hK => ?_); go_simp; refine hK _ _ ?_; clear hK K) | (refine pl_loadnow rfl rfl (by first | exact wanted_none rfl | (go_simp; done) | rfl) rfl (by first | rfl | (go_simp; rfl)) (by kernel_rfl) (by first | exact HK1.out.cell) (fun K hK => ?_); go_simp; refine hK _ _ ?_; clear hK K))
      refine pl_act rfl (by first | exact wanted_none rfl | (go_simp; done) | rfl) (fun K hK => ?_)
      go_wp2_with fail
      generalize hw_ : World.alloc w_ _ = w2_
      obtain ⟨hX_, hb_, hs_⟩ := alloc_eq hw_
      generalize hg_ : w_.heap.size = g1 at hX_ hs_ ⊢
      refine hK _ _ (fun _ => hb_) ?_
      have HX := Lib.hid hX_
      clear hK K hw_ hX_
      have HB_ := Lib.hid (HB.out.grow' hb_)
      clear HB
      have HB := HB_
      clear HB_
      have HS1_ := Lib.hid (HS1.out.grow hb_)
      clear HS1
      have HS1 := HS1_
      clear HS1_
      have HT1_ := Lib.hid (HT1.out.grow hb_)
      clear HT1
      have HT1 := HT1_
      clear HT1_
      have HK1_ := Lib.hid (HK1.out.grow hb_)
      clear HK1
      have HK1 := HK1_
      clear HK1_
      have HK2_ := Lib.hid (HK2.out.grow hb_)
      clear HK2
      have HK2 := HK2_
      clear HK2_
      clear hb_ hg_ hs_
      clear w_
      rename World => w_
      have HSB := Lib.hid (show Sl w_ w_.heap.size 1 (some ⟨g1, 0, none⟩) 1 ([UInt8.ofNat k].map B) by have h := HX.out.sl (sz := 1) (n := 1) rfl; rw [show [Value.int .u8 (k : Int)] = [UInt8.ofNat k].map B by simp [HW.out]] at h; exact h)
      refine pl_act rfl (by first | exact wanted_none rfl | (go_simp; done) | rfl) (fun K hK => ?_)
      go_wp2_with fail
      refine (tof_any _ _ _ _ _ _ _ _ HY.out _ HS1.out HSB.out hc (by omega) hn (by omega) HT1.out).mono ?_
      rintro e w_ ⟨rfl, hb_⟩
      go_wp2_with fail
      refine hK _ _ (fun _ => hb_) ?_
      clear hK K
      have HB_ := Lib.hid (HB.out.grow' hb_)
      clear HB
      have HB := HB_
      clear HB_
      have HK1_ := Lib.hid (HK1.out.grow hb_)
      clear HK1
      have HK1 := HK1_
      clear HK1_
      have HK2_ := Lib.hid (HK2.out.grow hb_)
      clear HK2
      have HK2 := HK2_
      clear HK2_
      clear hb_
      clear HX HSB
      have hysl := HY.out.len
      refine pl_act rfl (by first | exact wanted_none rfl | (go_simp; done) | rfl) (fun K hK => ?_)
      go_wp2_with fail
      generalize hw_ : World.alloc w_ _ = w2_
      obtain ⟨hX_, hb_, hs_⟩ := alloc_eq hw_
      generalize hg_ : w_.heap.size = g2 at hX_ hs_ ⊢
      refine hK _ _ (fun _ => hb_) ?_
      have HX2 := Lib.hid hX_
      clear hK K hw_ hX_
      have HB_ := Lib.hid (HB.out.grow' hb_)
      clear HB
      have HB := HB_
      clear HB_
      have HK1_ := Lib.hid (HK1.out.grow hb_)
      clear HK1
      have HK1 := HK1_
      clear HK1_
      have HK2_ := Lib.hid (HK2.out.grow hb_)
      clear HK2
      have HK2 := HK2_
      clear HK2_
      clear hb_ hg_ hs_
      clear w_
      rename World => w_
      clear hysl
      have HSX := Lib.hid (show Sl w_ w_.heap.size 32 (some ⟨g2, 0, none⟩) 1 ys from (show Blk w_ g2 23 ys by have h := HX2.out; rw [fold_set _ ys (by rw [HY.out.len]; rfl)] at h; exact h).sl (by rw [HY.out.len]))
      clear HX2
      refine pl_act rfl (by first | rfl | (go_simp; done) | rfl) (fun K hK => ?_)
      show wpList _ _ _ [⟨some _, .call _, _, _, _, _⟩] _ _
      have hbz := Nat.le_trans HK1.out.lt (Nat.le_refl _)
      have HBZ := Lib.hid hbz
      clear hbz
      go_wp2_with (at_builtin; refine wpl_apps rfl rfl el_id HK2.out rfl HSX.out rfl HY.out.one (by omega) (by omega) HBZ.out ?_)
      intro A4 c4 w4 ho hg hA
      have hne : ∀ x, A3.map Addr.block = some x → w.heap.size + 1 ≤ x := own_from HK2.out
      have HC4 := Lib.hid (show RCell w4 w.heap.size A3 k c3 from HK1.out.grown hg (by intro hh; have := hne _ hh.symm; omega))
      have HB4 := Lib.hid (show Below w.heap.size w w4 from HB.out.grown hg HB.out.size (fun x hx => by have := hne x hx; omega))
      have HO4 := Lib.hid (show w4.ownsRow (w.heap.size + 1) 23 32 (.slice A4 (k + 1) c4) (k + 1) (idCells (ringB seed (k + 1))) by rw [ringB_succ, idCells_snoc, ← HY.out.1]; exact ho)
      clear ho hg hA hne HSX HBZ HK1 HK2 HB HS1 HT1
      go_wp2_with fail
      refine hK _ _ (fun h => by cases h) ?_
      clear hK K
      repeat (first | (refine pl_calm rfl rfl (by first | exact wanted_none rfl | (go_simp; done) | rfl) (fun w_ => by first | (go_simp; rfl) | (go_simp; done) | rfl) (fun K hK => ?_); go_simp; refine hK _ _ ?_; clear hK K) | (refine pl_skip rfl (by first | (go_simp; done) | rfl) (fun K hK => ?_); go_simp; refine hK _ _ ?_; clear hK K) | (refine pl_skipa rfl (by first | (go_simp; done) | rfl) (fun K hK => ?_); go_simp; refine hK _ _ ?_; clear hK K))
      have hcl := HC4.out.cell
      have hfz := Blk.frozen HC4.out 0
      refine pl_act rfl (by first | rfl | (go_simp; done) | rfl) (fun K hK => ?_)
      go_wp2_with fail
      refine hK _ _ (fun h => by cases h) ?_
      clear hK K hcl hfz
      have HI := Lib.hid (show KInv w (w4.setCell ⟨w.heap.size, 0, none⟩ (.slice A4 (k + 1) c4)) A4 c4 (k + 1) seed from
        ⟨Blk.set_ HC4.out 0 _, own_kept HO4.out (grown_set w4 w.heap.size 0 _) (fun x hx hh => by have := own_from HO4.out x (by rw [hx]; rfl); cases hh; omega), HB4.out.setCell (p := ⟨w.heap.size, 0, none⟩) (Nat.le_refl _) _⟩)
      refine pl_done ?_
      go_wp2_with fail
      go_roundw
      case rel => exact ⟨k + 1, A4, c4, by omega, by go_num, HI⟩
      case measure => simp [intOf]; omega
    · obtain rfl : k = N := by omega
      have HI := Lib.hid (show Ids wr A3 k c3 (ringB seed k) from ⟨Sl.of_own hinv.out.2.1, ringB_len _ _, ringB_all _ _, by obtain ⟨_, _, _, _, h⟩ := own_form hinv.out.2.1 (by omega); exact h⟩)
      go_wp2_with fail
      go_ret
      exact ⟨_, A3, c3, rfl, ⟨hinv.out.1, HI.out⟩, hinv.out.2.2⟩

theorem has_any {g : Nat} {A : Option Addr} {n c : Nat} {ds : List (List UInt8)} (s : Int) (w : World) (hr : RingAt w g A n c ds) :
    Calls Tryd.prog 132 #[.pointer (some ⟨g, 0, none⟩), .int .i64 s] w fun e w' => e = .returned (.bool (decide (0 ≤ s ∧ s < n))) ∧ Below w.heap.size w w' := by
  have hc := hr.cell
  clear hr
  by_cases h0 : 0 ≤ s
  · by_cases h1 : s < n
    · have g0 : decide (0 ≤ s) = true := by simpa using h0
      have g1 : decide (s < (n : Int)) = true := by simpa using h1
      have e : decide (0 ≤ s ∧ s < n) = true := by simp [h0, h1]
      rw [e]
      go_enter Tryd.func132, Tryd.ntmps132
      go_wp2_with fail
      go_ret
      exact ⟨by simp, Below.refl _ _⟩
    · have g0 : decide (0 ≤ s) = true := by simpa using h0
      have g1 : decide (s < (n : Int)) = false := by simpa using h1
      have e : decide (0 ≤ s ∧ s < n) = false := by simp [h1]
      rw [e]
      go_enter Tryd.func132, Tryd.ntmps132
      go_wp2_with fail
      go_ret
      exact ⟨by simp, Below.refl _ _⟩
  · have g0 : decide (0 ≤ s) = false := by simpa using h0
    have e : decide (0 ≤ s ∧ s < n) = false := by simp [h0]
    rw [e]
    go_enter Tryd.func132, Tryd.ntmps132
    go_wp2_with fail
    go_ret
    exact ⟨by simp, Below.refl _ _⟩
theorem has_b {b : Bool} {g : Nat} {A : Option Addr} {n c : Nat} {ds : List (List UInt8)} (s : Int) (hb : decide (0 ≤ s ∧ s < n) = b) (w : World) (hr : RingAt w g A n c ds) :
    Calls Tryd.prog 132 #[.pointer (some ⟨g, 0, none⟩), .int .i64 s] w fun e w' => e = .returned (.bool b) ∧ Below w.heap.size w w' := by
  rw [← hb]; exact has_any s w hr

set_option maxRecDepth 100000 in
set_option maxHeartbeats 1000000 in
theorem sign_yes {g : Nat} {A A2 : Option Addr} {n c n2 c2 k : Nat} {ds : List (List UInt8)} {bs d : List UInt8} {xs : List Value} (hd : ds[k]? = some d) (hx : Dig xs (tagB d bs)) (w : World) (hr : RingAt w g A n c ds) (hn : n ≤ 64) (hs2 : Sl w w.heap.size 1 A2 n2 (bs.map B)) (hc2 : n2 ≤ c2) (hn2 : n2 ≤ 1000000) (ht : Tabs w) :
    Calls Tryd.prog 95 #[.pointer (some ⟨g, 0, none⟩), .int .i64 k, .slice A2 n2 c2] w fun e w' => e = .returned (.tuple #[.agg xs.toArray, .bool true]) ∧ Below w.heap.size w w' := by
  have hk : k < n := by have := (List.getElem?_eq_some_iff.1 hd).1; rw [hr.2.2.1] at this; exact this
  obtain ⟨b, off, d', rfl, h1, h2, h3, h4⟩ := hr.2.key hk
  rw [hd] at h1; cases h1
  have HK := Lib.hid (hr.2.sl hd)
  have HRA := Lib.hid hr; have HS2 := Lib.hid hs2; have HT := Lib.hid ht; have HD := Lib.hid hx
  have HB := Lib.hid (Below.refl w.heap.size w)
  have HG := Lib.hid (Nat.le_refl w.heap.size)
  have hrid := row_id
  have HRI := Lib.hid hrid
  clear hd hr hs2 ht hx h2 h3 h4 hrid
  have e : decide ((0 : Int) ≤ k ∧ (k : Int) < n) = true := by simp; omega
  have HE := Lib.hid e
  clear e
  go_enter Tryd.func95, Tryd.ntmps95
  go_wp2_with (first | (with_reducible refine wpl_alloc (o := ⟨some 6, _, _, _, _, _⟩) rfl rfl zero_id ?_))
  intro w2_ hb2_ hb_ hsz2_
  have HX_ := Lib.hid (at_mk hb2_ len_id)
  clear hb2_ hsz2_
  have HB_ := Lib.hid (HB.out.grow' hb_)
  clear HB
  have HB := HB_
  clear HB_
  have HRA_ := Lib.hid (HRA.out.grow hb_)
  clear HRA
  have HRA := HRA_
  clear HRA_
  have HS2_ := Lib.hid (HS2.out.grow hb_)
  clear HS2
  have HS2 := HS2_
  clear HS2_
  have HT_ := Lib.hid (HT.out.grow hb_)
  clear HT
  have HT := HT_
  clear HT_
  have HK_ := Lib.hid (HK.out.grow hb_)
  clear HK
  have HK := HK_
  clear HK_
  have HR := HX_
  clear hb_ HX_
  try clear w_
  rename World => w_
  go_wp2_with fail
  refine (has_b (k : Int) HE.out _ HRA.out).mono ?_
  rintro e w_ ⟨rfl, hb_⟩
  have HB_ := Lib.hid (HB.out.grow' hb_)
  clear HB
  have HB := HB_
  clear HB_
  have HRA_ := Lib.hid (HRA.out.grow hb_)
  clear HRA
  have HRA := HRA_
  clear HRA_
  have HR_ := Lib.hid (HR.out.grow hb_)
  clear HR
  have HR := HR_
  clear HR_
  have HS2_ := Lib.hid (HS2.out.grow hb_)
  clear HS2
  have HS2 := HS2_
  clear HS2_
  have HT_ := Lib.hid (HT.out.grow hb_)
  clear HT
  have HT := HT_
  clear HT_
  have HK_ := Lib.hid (HK.out.grow hb_)
  clear HK
  have HK := HK_
  clear HK_
  clear hb_
  have hc := HRA.out.cell
  go_wp2_with fail
  refine (tof_any _ _ _ _ _ _ _ _ HD.out _ HK.out HS2.out (by omega) hc2 (by omega) hn2 HT.out).mono ?_
  rintro e w_ ⟨rfl, hb_⟩
  have HB_ := Lib.hid (HB.out.grow' hb_)
  clear HB
  have HB := HB_
  clear HB_
  have HR_ := Lib.hid (HR.out.grow hb_)
  clear HR
  have HR := HR_
  clear HR_
  clear hb_
  clear hc
  go_wp2_with (first | (with_reducible refine wpl_storeb (o := ⟨none, .store _ _ _, _, _, _, _⟩) rfl rfl row_id HR.out.blk rfl rfl HR.out.len HD.out.len HD.out.one ?_))
  intro w2_ hb2_ hg2_ hsz2_
  have HB_ := Lib.hid (put_below HB.out HG.out hg2_)
  have HX_ := Lib.hid (at_mk hb2_ HD.out.len)
  clear hb2_ hg2_ hsz2_ HB HR
  have HB := HB_
  have HR := HX_
  clear HB_ HX_
  try clear w_
  rename World => w_
  go_wp2_with fail
  exact ret_cell2 rfl HRI.out HR.out.blk rfl HR.out.len rfl rfl ⟨rfl, HB.out⟩
set_option maxRecDepth 100000 in
set_option maxHeartbeats 2000000 in
theorem sign_no {g : Nat} {A A2 : Option Addr} {n c n2 c2 : Nat} {ds : List (List UInt8)} (s : Int) {zs : List Value} (hz : List.replicate 32 (B 0) = zs) (w : World) (hr : RingAt w g A n c ds) (hs : ¬ (0 ≤ s ∧ s < n)) :
    Calls Tryd.prog 95 #[.pointer (some ⟨g, 0, none⟩), .int .i64 s, .slice A2 n2 c2] w fun e w' => e = .returned (.tuple #[.agg zs.toArray, .bool false]) ∧ Below w.heap.size w w' := by
  have HRA := Lib.hid hr
  have HB := Lib.hid (Below.refl w.heap.size w)
  have HG := Lib.hid (Nat.le_refl w.heap.size)
  have hrid := row_id
  have HRI := Lib.hid hrid
  have HE := Lib.hid (show decide (0 ≤ s ∧ s < n) = false by simpa using hs)
  have HZ := Lib.hid hz
  have h1 : ∀ u ∈ List.replicate 32 (B 0), u.oneCell' = true := by intro u hu; rw [List.eq_of_mem_replicate hu]; rfl
  have HO := Lib.hid h1
  clear hr hs hrid hz h1
  go_enter Tryd.func95, Tryd.ntmps95
  go_wp2_with (first | (with_reducible refine wpl_alloc (o := ⟨some 6, _, _, _, _, _⟩) rfl rfl zero_id ?_))
  intro w2_ hb2_ hb_ hsz2_
  have HX_ := Lib.hid (at_mk hb2_ len_id)
  clear hb2_ hsz2_
  have HB_ := Lib.hid (HB.out.grow' hb_)
  clear HB
  have HB := HB_
  clear HB_
  have HRA_ := Lib.hid (HRA.out.grow hb_)
  clear HRA
  have HRA := HRA_
  clear HRA_
  have HR := HX_
  clear hb_ HX_
  try clear w_
  rename World => w_
  go_wp2_with fail
  refine (has_b s HE.out _ HRA.out).mono ?_
  rintro e w_ ⟨rfl, hb_⟩
  have HB_ := Lib.hid (HB.out.grow' hb_)
  clear HB
  have HB := HB_
  clear HB_
  have HRA_ := Lib.hid (HRA.out.grow hb_)
  clear HRA
  have HRA := HRA_
  clear HRA_
  have HR_ := Lib.hid (HR.out.grow hb_)
  clear HR
  have HR := HR_
  clear HR_
  clear hb_
  go_wp2_with (first | (refine wpl_storeb (o := ⟨none, .store _ _ _, _, _, _, _⟩) (cs := List.replicate 32 (B 0)) rfl rfl row_id HR.out.blk rfl rfl HR.out.len len_id HO.out ?_))
  intro w2 hb2 hg2 hsz2
  have HX := Lib.hid (at_mk hb2 len_id)
  have HB2 := Lib.hid (put_below HB.out HG.out hg2)
  clear hb2 hg2 hsz2
  go_wp2_with fail
  refine ret_cell2 rfl HRI.out HX.out.blk rfl HX.out.len rfl rfl ⟨?_, HB2.out⟩
  rw [← HZ.out]; rfl

set_option maxRecDepth 100000 in
set_option maxHeartbeats 1000000 in
theorem ris_yes {g : Nat} {A A2 : Option Addr} {n c n2 c2 k : Nat} {ds : List (List UInt8)} {bs d t : List UInt8} {xs : List Value} (hd : ds[k]? = some d) (hx : Dig xs t) (w : World) (hr : RingAt w g A n c ds) (hn : n ≤ 64) (hs2 : Sl w w.heap.size 1 A2 n2 (bs.map B)) (hc2 : n2 ≤ c2) (hn2 : n2 ≤ 1000000) (ht : Tabs w) :
    Calls Tryd.prog 101 #[.pointer (some ⟨g, 0, none⟩), .int .i64 k, .slice A2 n2 c2, .agg xs.toArray] w fun e w' => e = .returned (.bool (decide (tagB d bs = t))) ∧ Below w.heap.size w w' := by
  have hk : k < n := by have := (List.getElem?_eq_some_iff.1 hd).1; rw [hr.2.2.1] at this; exact this
  obtain ⟨b, off, d', rfl, h1, h2, h3, h4⟩ := hr.2.key hk
  rw [hd] at h1; cases h1
  have HK := Lib.hid (hr.2.sl hd)
  have HRA := Lib.hid hr; have HS2 := Lib.hid hs2; have HT := Lib.hid ht; have HD := Lib.hid hx
  have HB := Lib.hid (Below.refl w.heap.size w)
  clear hd hr hs2 ht hx h2 h3 h4
  have e : decide ((0 : Int) ≤ k ∧ (k : Int) < n) = true := by simp; omega
  have HE := Lib.hid e
  clear e
  go_enter Tryd.func101, Tryd.ntmps101
  go_wp2_with (first | (with_reducible refine wpl_box (o := ⟨some 7, _, _, _, _, _⟩) rfl rfl rfl ?_))
  intro w2_ hb2_ hb_ hsz2_
  have HX_ := Lib.hid (at_mk hb2_ HD.out.len)
  clear hb2_ hsz2_
  have HB_ := Lib.hid (HB.out.grow' hb_)
  clear HB
  have HB := HB_
  clear HB_
  have HRA_ := Lib.hid (HRA.out.grow hb_)
  clear HRA
  have HRA := HRA_
  clear HRA_
  have HS2_ := Lib.hid (HS2.out.grow hb_)
  clear HS2
  have HS2 := HS2_
  clear HS2_
  have HT_ := Lib.hid (HT.out.grow hb_)
  clear HT
  have HT := HT_
  clear HT_
  have HK_ := Lib.hid (HK.out.grow hb_)
  clear HK
  have HK := HK_
  clear HK_
  have HV := HX_
  clear hb_ HX_
  try clear w_
  rename World => w_
  try go_wp2_with fail
  repeat' (first | (with_reducible refine wp_plan (id := 1) Grow [0,0,3,0,0,0,0,2,0,0,0,0,2,3,0,0] (.get 0 (.get 1 (.act 2 (.get 3 (.get 4 (.get 5 (.get 6 (.get 7 (.get 8 (.get 9 (.get 10 (.get 11 (.get 12 (.act 13 (.get 14 (.get 15 .done)))))))))))))))) (by kernel_rfl) (by kernel_rfl) Grow.refl Grow.trans ?_) | go_values | go_skip | go_guarded | go_step | go_upon | go_back)
  intro w_ hd_
  have hb_ := hd_.grow
  have HB_ := Lib.hid (HB.out.grow' hb_)
  clear HB
  have HB := HB_
  clear HB_
  have HV_ := Lib.hid (HV.out.grow hb_)
  clear HV
  have HV := HV_
  clear HV_
  have HRA_ := Lib.hid (HRA.out.grow hb_)
  clear HRA
  have HRA := HRA_
  clear HRA_
  have HS2_ := Lib.hid (HS2.out.grow hb_)
  clear HS2
  have HS2 := HS2_
  clear HS2_
  have HT_ := Lib.hid (HT.out.grow hb_)
  clear HT
  have HT := HT_
  clear HT_
  have HK_ := Lib.hid (HK.out.grow hb_)
  clear HK
  have HK := HK_
  clear HK_
  clear hb_ hd_
  repeat (first | (refine pl_calm rfl rfl (by first | exact wanted_none rfl | (go_simp; done) | rfl) (fun w_ => by first | (go_simp; rfl) | (go_simp; done) | rfl) (fun K hK => ?_); go_simp; refine hK _ _ ?_; clear hK K) | (refine pl_skip rfl (by first | (go_simp; done) | rfl) (fun K hK => ?_); go_simp; refine hK _ _ ?_; clear hK K) | (refine pl_skipa rfl (by first | (go_simp; done) | rfl) (fun K hK => ?_); go_simp; refine hK _ _ ?_; clear hK K))
  refine pl_act rfl (by first | exact wanted_none rfl | (go_simp; done) | rfl) (fun K hK => ?_)
  go_wp2_with fail
  refine (has_b (k : Int) HE.out _ HRA.out).mono ?_
  rintro e w_ ⟨rfl, hb_⟩
  go_wp2_with fail
  refine hK _ _ (fun _ => hb_) ?_
  clear hK K
  have HB_ := Lib.hid (HB.out.grow' hb_)
  clear HB
  have HB := HB_
  clear HB_
  have HV_ := Lib.hid (HV.out.grow hb_)
  clear HV
  have HV := HV_
  clear HV_
  have HRA_ := Lib.hid (HRA.out.grow hb_)
  clear HRA
  have HRA := HRA_
  clear HRA_
  have HS2_ := Lib.hid (HS2.out.grow hb_)
  clear HS2
  have HS2 := HS2_
  clear HS2_
  have HT_ := Lib.hid (HT.out.grow hb_)
  clear HT
  have HT := HT_
  clear HT_
  have HK_ := Lib.hid (HK.out.grow hb_)
  clear HK
  have HK := HK_
  clear HK_
  clear hb_
  repeat (first | (refine pl_calm rfl rfl (by first | exact wanted_none rfl | (go_simp; done) | rfl) (fun w_ => by first | (go_simp; rfl) | (go_simp; done) | rfl) (fun K hK => ?_); go_simp; refine hK _ _ ?_; clear hK K) | (refine pl_skip rfl (by first | (go_simp; done) | rfl) (fun K hK => ?_); go_simp; refine hK _ _ ?_; clear hK K) | (refine pl_skipa rfl (by first | (go_simp; done) | rfl) (fun K hK => ?_); go_simp; refine hK _ _ ?_; clear hK K) | (refine pl_load rfl rfl (by first | exact wanted_none rfl | (go_simp; done) | rfl) rfl (by first | rfl | (go_simp; rfl)) (by kernel_rfl) (by first | exact HRA.out.cell) (fun K hK => ?_); go_simp; refine hK _ _ ?_; clear hK K) | (refine pl_loadnow rfl rfl (by first | exact wanted_none rfl | (go_simp; done) | rfl) rfl (by first | rfl | (go_simp; rfl)) (by kernel_rfl) (by first | exact HRA.out.cell) (fun K hK => ?_); go_simp; refine hK _ _ ?_; clear hK K) | (refine pl_loadb rfl rfl (by first | exact wanted_none rfl | (go_simp; done) | rfl) rfl row_id HV.out.blk (by first | rfl | (go_simp; done) | rfl) HV.out.len (fun K hK => ?_); go_simp; refine hK _ _ ?_; clear hK K) | (refine pl_loadbnow rfl rfl (by first | exact wanted_none rfl | (go_simp; done) | rfl) rfl row_id HV.out.blk (by first | rfl | (go_simp; done) | rfl) HV.out.len (fun K hK => ?_); go_simp; refine hK _ _ ?_; clear hK K))
  refine pl_act rfl (by first | exact wanted_none rfl | (go_simp; done) | rfl) (fun K hK => ?_)
  go_wp2_with fail
  refine (tis_any _ _ _ _ _ _ _ _ _ HD.out _ HK.out HS2.out (by omega) hc2 (by omega) hn2 HT.out).mono ?_
  rintro e w_ ⟨rfl, hb_⟩
  go_wp2_with fail
  refine hK _ _ (fun _ => hb_) ?_
  clear hK K
  have HB_ := Lib.hid (HB.out.grow' hb_)
  clear HB
  have HB := HB_
  clear HB_
  clear hb_
  repeat (first | (refine pl_calm rfl rfl (by first | exact wanted_none rfl | (go_simp; done) | rfl) (fun w_ => by first | (go_simp; rfl) | (go_simp; done) | rfl) (fun K hK => ?_); go_simp; refine hK _ _ ?_; clear hK K) | (refine pl_skip rfl (by first | (go_simp; done) | rfl) (fun K hK => ?_); go_simp; refine hK _ _ ?_; clear hK K) | (refine pl_skipa rfl (by first | (go_simp; done) | rfl) (fun K hK => ?_); go_simp; refine hK _ _ ?_; clear hK K))
  refine pl_done ?_
  go_wp2_with fail
  go_ret
  exact ⟨rfl, HB.out⟩
end Go.Proofs.YtphmefhnffoafaaDoor

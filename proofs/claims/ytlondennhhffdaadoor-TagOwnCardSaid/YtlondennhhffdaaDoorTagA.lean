/- Contracts of layer 6: a digest's bytes, a key filled, a pad turned. -/
import Derived.Test.YtlondennhhffdaaDoorIds
import Derived.Laws.IdiomCopy
namespace Go.Proofs.YtlondennhhffdaaDoor
open Go.RowKit Go.Shelf
set_option linter.unusedVariables false

theorem Dig.at_ {xs : List Value} {d : List UInt8} (h : Dig xs d) {k : Nat} (hk : k < 32) : ∃ x : UInt8, xs[k]? = some (.int .u8 (b8 x)) ∧ d[k]? = some x := by
  have hl := h.2
  refine ⟨d[k]'(by omega), ?_, List.getElem?_eq_getElem (by omega)⟩
  rw [h.1, List.getElem?_map, List.getElem?_eq_getElem (by omega)]; rfl

set_option maxRecDepth 100000 in
set_option maxHeartbeats 1000000 in
theorem tbytes_any {xs : List Value} {d : List UInt8} (hx : Dig xs d) (w : World) :
    Calls Tryd.prog 56 #[.agg xs.toArray] w fun e w' => ∃ A' c', e = .returned (.slice A' 32 c') ∧ Sl w' w'.heap.size 1 A' 32 (d.map B) ∧ 32 ≤ c' ∧ Below w.heap.size w w' := by
  have HD := Lib.hid hx
  have HB := Lib.hid (Below.refl w.heap.size w)
  clear hx
  go_enter Tryd.func56, Tryd.ntmps56
  go_wp2_with (first | (with_reducible refine wpl_box (o := ⟨some 1, _, _, _, _, _⟩) rfl rfl rfl ?_))
  intro w2_ hb2_ hb_ hsz2_
  have HX_ := Lib.hid (at_mk hb2_ HD.out.len)
  clear hb2_ hsz2_
  have HB_ := Lib.hid (HB.out.grow' hb_)
  clear HB
  have HB := HB_
  clear HB_
  have HX := HX_
  clear hb_ HX_
  try clear w_
  rename World => w_
  go_wp2_with fail
  go_loopw [3, 4] (fun v i wr => ∃ k : Nat, ∃ A' c', k ≤ 32 ∧ i = .int .i64 k ∧ v = .slice A' k c' ∧ Hid (wr.ownsRow (w.heap.size + 1) 5 1 (.slice A' k c') k (xs.take k)) ∧ Hid (Below w.heap.size w wr) ∧ Hid (At wr w.heap.size 26 32 xs)) (fun _ i _ => 32 - (intOf i).toNat)
  case atStart => exact ⟨0, none, 0, by omega, rfl, rfl, Lib.hid (by simpa using World.ownsRow_nil _ _ _ _), HB, HX⟩
  case round =>
    obtain ⟨k, A3, c3, hk, rfl, rfl, hown, hbw, hat⟩ := hrel
    clear HB HX
    by_cases hlt : k < 32
    · obtain ⟨x, hx, _⟩ := HD.out.at_ hlt
      have hc := hat.out.blk.at_ hx
      have HXK := Lib.hid hx
      clear hx
      go_wp2_with (at_builtin; refine wpl_app1 rfl rfl el_u8 hown.out rfl (m := 1) rfl rfl ?_ ?_ ?_ ?_ ?_)
      · rfl
      · omega
      · omega
      · have := hat.out.lt; omega
      · intro A4 c4 w4 ho hg hA
        have HO := Lib.hid (show w4.ownsRow (w.heap.size + 1) 5 1 (.slice A4 (k + 1) c4) (k + 1) (xs.take (k + 1)) by rw [List.take_add_one, HXK.out]; exact ho)
        have HB := Lib.hid (show Below w.heap.size w w4 from hbw.out.grown hg hbw.out.size (fun g hg => by have := own_from hown.out g hg; omega))
        have HX := Lib.hid (at_mk (hat.out.blk.grown hg (by intro hh; have := own_from hown.out _ hh.symm; omega)) hat.out.len)
        clear ho hg hA hc
        go_wp2_with fail
        go_roundw
        case rel => exact ⟨k + 1, A4, c4, by omega, by go_num, rfl, HO, HB, HX⟩
        case measure => simp [intOf]; omega
    · obtain rfl : k = 32 := by omega
      have e : xs.take 32 = d.map B := by rw [List.take_of_length_le (by rw [HD.out.len]; exact Nat.le_refl _), HD.out.1]
      have HO := Lib.hid (e ▸ hown.out)
      clear e
      have HC := Lib.hid (own_form hown.out (by omega))
      go_wp2_with fail
      go_ret
      exact ⟨A3, c3, rfl, Sl.of_own HO.out, (by obtain ⟨g, _, _, _, h⟩ := HC.out; exact h), hbw.out⟩

theorem row_pad : RowT Tryd.prog 83 64 := ⟨_, Tryd.underlying83, by kernel_rfl, by kernel_rfl⟩
theorem zero_pad : (Tryd.prog.info? 83).map (·.zero) = some (some (.agg (List.replicate 64 (B 0)).toArray)) := by kernel_rfl
theorem len_pad {v : Value} : (List.replicate 64 v).length = 64 := by simp
/-- A pad's cells. -/
def Pad (xs : List Value) (p : List UInt8) : Prop := xs = p.map B ∧ p.length = 64
theorem Pad.len {xs : List Value} {d : List UInt8} (h : Pad xs d) : xs.length = 64 := by rw [h.1, List.length_map, h.2]
theorem Pad.one {xs : List Value} {d : List UInt8} (h : Pad xs d) : ∀ u ∈ xs, u.oneCell' = true := by rw [h.1]; exact all_bytes d

def turnUpto (p : List UInt8) (m : UInt8) (k : Nat) : List UInt8 := (p.take k).map (· ^^^ m) ++ p.drop k
theorem turnUpto_len (p : List UInt8) (m : UInt8) (k : Nat) : (turnUpto p m k).length = p.length := by
  unfold turnUpto; rw [List.length_append, List.length_map, List.length_take, List.length_drop]; omega
theorem turnUpto_at (p : List UInt8) (m : UInt8) (k : Nat) (x : UInt8) (h : p[k]? = some x) : (turnUpto p m k)[k]? = some x := by
  have hk := (List.getElem?_eq_some_iff.1 h).1
  unfold turnUpto
  rw [List.getElem?_append_right (by rw [List.length_map, List.length_take]; omega), List.length_map, List.length_take, List.getElem?_drop]
  rw [show k + (k - min k p.length) = k by omega]; exact h
theorem turnUpto_set (p : List UInt8) (m : UInt8) (k : Nat) (x : UInt8) (h : p[k]? = some x) : (turnUpto p m k).set k (x ^^^ m) = turnUpto p m (k + 1) := by
  have hk := (List.getElem?_eq_some_iff.1 h).1
  unfold turnUpto
  rw [List.set_append_right _ _ (by rw [List.length_map, List.length_take]; omega), List.length_map, List.length_take, show k - min k p.length = 0 by omega, List.take_add_one, h]
  have hd : p.drop k = x :: p.drop (k + 1) := by rw [List.drop_eq_getElem_cons hk, (List.getElem?_eq_some_iff.1 h).2]
  rw [hd]
  simp
theorem turnUpto_all (p : List UInt8) (m : UInt8) (k : Nat) (h : p.length ≤ k) : turnUpto p m k = p.map (· ^^^ m) := by
  unfold turnUpto; rw [List.take_of_length_le h, List.drop_of_length_le h, List.append_nil]
attribute [irreducible] turnUpto
attribute [local go_sem high] xor_b
set_option maxRecDepth 100000 in
set_option maxHeartbeats 1000000 in
theorem turned_any {xs : List Value} {p : List UInt8} (hx : Pad xs p) (m : UInt8) (w : World) :
    Calls Tryd.prog 58 #[.agg xs.toArray, .int .u8 (b8 m)] w fun e w' => ∃ g, e = .returned (.slice (some ⟨g, 0, none⟩) 64 64) ∧ Sl w' w'.heap.size 1 (some ⟨g, 0, none⟩) 64 ((p.map (· ^^^ m)).map B) ∧ Below w.heap.size w w' := by
  have HD := Lib.hid hx
  have HB := Lib.hid (Below.refl w.heap.size w)
  clear hx
  go_enter Tryd.func58, Tryd.ntmps58
  go_wp2_with (first | (with_reducible refine wpl_box (o := ⟨some 2, _, _, _, _, _⟩) rfl rfl rfl ?_))
  intro w2_ hb2_ hb_ hsz2_
  have HX_ := Lib.hid (at_mk hb2_ HD.out.len)
  clear hb2_ hsz2_
  have HB_ := Lib.hid (HB.out.grow' hb_)
  clear HB
  have HB := HB_
  clear HB_
  have HX := HX_
  clear hb_ HX_
  try clear w_
  rename World => w_
  go_wp2_with fail
  go_loopw [6] (fun i wr => ∃ k : Nat, k ≤ 64 ∧ i = .int .i64 k ∧ Hid (Below w.heap.size w wr) ∧ Hid (At wr w.heap.size 83 64 ((turnUpto p m k).map B))) (fun i _ => 64 - (intOf i).toNat)
  case atStart => exact ⟨0, by omega, rfl, HB, Lib.hid (by have := HX.out; rw [HD.out.1] at this; unfold turnUpto; simpa using this)⟩
  case round =>
    obtain ⟨k, hk, rfl, hbw, hat⟩ := hrel
    clear HB HX
    by_cases hlt : k < 64
    · obtain ⟨x, hx⟩ : ∃ x, p[k]? = some x := ⟨_, List.getElem?_eq_getElem (by rw [HD.out.2]; exact hlt)⟩
      have hc := hat.out.blk.at_ (show ((turnUpto p m k).map B)[k]? = some (.int .u8 (b8 x)) by rw [List.getElem?_map, turnUpto_at p m k x hx]; rfl)
      have hfz := hat.out.blk.frozen k
      have gk : (k : Int) < 64 := by omega
      have HSX := Lib.hid (turnUpto_set p m k x hx)
      clear hx
      go_wp2_with fail
      go_roundw
      case rel =>
        refine ⟨k + 1, by omega, by go_num, Lib.hid (hbw.out.setCell (p := ⟨w.heap.size, k, none⟩) (Nat.le_refl _) _), Lib.hid (at_mk ?_ ?_)⟩
        · have := hat.out.blk.set_ k (B (x ^^^ m))
          rw [← List.map_set, HSX.out] at this
          exact this
        · rw [List.length_map, turnUpto_len]; exact HD.out.2
      case measure => simp [intOf]; omega
    · obtain rfl : k = 64 := by omega
      have HO := Lib.hid (show At wr w.heap.size 83 64 ((p.map (· ^^^ m)).map B) by have := hat.out; rw [turnUpto_all _ _ _ (by rw [HD.out.2]; exact Nat.le_refl _)] at this; exact this)
      go_wp2_with fail
      go_ret
      exact ⟨_, rfl, HO.out.sl, hbw.out⟩

/-- 'copy(dst[:], src)' of no more than fits, onto the head of a block. -/
theorem run_copy_sl {P : Program} {w : World} {dT sT ty elem t : TypeId} (hu : P.underlying dT = some (.slice elem)) (hsz : (P.info? elem).map (·.size) = some 1)
    {go dl dc n c Bd : Nat} {A : Option Addr} {xs cs : List Value} (hb : Blk w go t xs) (hsl : Sl w Bd 1 A n cs) (hn : n ≤ dl) (hd : dl ≤ xs.length) (h1 : ∀ v ∈ cs, v.oneCell' = true) :
    ∃ w', (Builtin.copy_ #[dT, sT] ty #[.slice (some ⟨go, 0, none⟩) dl dc, .slice A n c]).run P w = .ok (goInt n) w' ∧ Blk w' go t (cs ++ xs.drop n) ∧ w.grownBy w' (some go) := by
  have hl : cs.length = n := hsl.len
  rcases Nat.eq_zero_or_pos n with h0 | h0
  · subst h0
    have : cs = [] := List.eq_nil_of_length_eq_zero hl
    subst this
    exact ⟨w, run_copy_none (P := P) w dT sT ty elem _ A dl dc 0 c hu hsz (by simp), by simpa using hb, World.grownBy.refl w _⟩
  · obtain ⟨b, off, rfl, _, hc⟩ := hsl.2 h0
    have hr := run_copy_row (P := P) w dT sT ty elem go 0 dl dc ⟨b, off, none⟩ n c xs.toArray t cs hu hsz hb (by rw [hl]; exact (Nat.min_eq_left hn).symm) (fun j v hv => by rw [Addr.add_lit]; exact hc j v hv) (by simp; omega) h1
    rw [hl] at hr
    refine ⟨_, hr, ?_, ?_⟩
    · have := blk_setRow (xs := xs.toArray.toList.take 0 ++ cs ++ xs.toArray.toList.drop (0 + n)) hb
      simpa using this
    · exact ⟨rfl, rfl, rfl, by simp, fun k _ hk => setRow_other w go k _ (fun e => hk (by simp [e]))⟩

def padB (key : List UInt8) : List UInt8 := (if 64 < key.length then sha key else key) ++ List.replicate (64 - (if 64 < key.length then sha key else key).length) 0
theorem padB_length (key : List UInt8) : (padB key).length = 64 := by
  unfold padB
  have := sha_length key
  split <;> simp <;> omega
theorem pad_of (k : List UInt8) (h : k.length ≤ 64) : k.map B ++ (List.replicate 64 (B 0)).drop k.length = (k ++ List.replicate (64 - k.length) 0).map B := by
  rw [List.map_append, List.drop_replicate, List.map_replicate]
theorem Pad.padB (key : List UInt8) : Pad ((padB key).map B) (padB key) := ⟨rfl, padB_length key⟩

set_option maxRecDepth 100000 in
set_option maxHeartbeats 1000000 in
theorem fill_any (A : Option Addr) (n c : Nat) (key : List UInt8) {xs : List Value} (hx : Pad xs (padB key)) (w : World) (hs : Sl w w.heap.size 1 A n (key.map B)) (hc : n ≤ c) (hn : n ≤ 1099511627776) (ht : Tabs w) :
    Calls Tryd.prog 57 #[.slice A n c] w fun e w' => e = .returned (.agg xs.toArray) ∧ Below w.heap.size w w' := by
  have HS := Lib.hid hs; have HT := Lib.hid ht; have HD := Lib.hid hx
  have HB := Lib.hid (Below.refl w.heap.size w)
  have HL := Lib.hid (show key.length = n by have := hs.len; simpa using this)
  have hr := row_pad
  have HR := Lib.hid hr
  clear hs ht hx hr
  have HG := Lib.hid (Nat.le_refl w.heap.size)
  by_cases h64 : 64 < n
  · obtain ⟨ys, hys⟩ : ∃ ys, ys = (sha key).map B := ⟨_, rfl⟩
    have HY := Lib.hid (show Dig ys (sha key) by rw [hys]; exact Dig.sha key)
    have HP := Lib.hid (show padB key = sha key ++ List.replicate (64 - (sha key).length) 0 by unfold padB; rw [if_pos (by rw [HL.out]; exact h64)])
    clear hys
    go_enter Tryd.func57, Tryd.ntmps57
    go_wp2_with (first | (with_reducible refine wpl_alloc (o := ⟨some 2, _, _, _, _, _⟩) rfl rfl zero_pad ?_))
    intro w2_ hb2_ hb_ hsz2_
    have HX_ := Lib.hid (at_mk hb2_ len_pad)
    clear hb2_ hsz2_
    have HB_ := Lib.hid (HB.out.grow' hb_)
    clear HB
    have HB := HB_
    clear HB_
    have HS_ := Lib.hid (HS.out.grow hb_)
    clear HS
    have HS := HS_
    clear HS_
    have HT_ := Lib.hid (HT.out.grow hb_)
    clear HT
    have HT := HT_
    clear HT_
    have HX := HX_
    clear hb_ HX_
    try clear w_
    rename World => w_
    go_wp2_with fail
    have ha := alloc_new w_ #[.slice A n c] 22
    have HP1 := Lib.hid (show Parts _ _ (some ⟨w_.heap.size, 0, none⟩) 1 [(.slice A n c, key)] from parts_blk ha.1 rfl (by intro p hp; simp only [List.mem_cons, List.not_mem_nil, or_false] at hp; subst hp; exact part_mk (HS.out.grow ha.2.1) hc))
    have HT1 := Lib.hid (HT.out.grow ha.2.1)
    have HX1 := Lib.hid (HX.out.grow ha.2.1)
    have HB1 := Lib.hid (HB.out.grow' ha.2.1)
    clear ha HS HT HX HB
    refine (dsum_any _ _ _ _ HY.out (by simp [cat]) _ HP1.out (by omega) (by rw [HL.out]; omega) HT1.out).mono ?_
    rintro e w2 ⟨rfl, hb_⟩
    have HX := Lib.hid (HX1.out.grow hb_)
    have HB := Lib.hid (HB1.out.grow' hb_)
    clear hb_ HX1 HB1 HT1 HP1
    obtain ⟨w_, rfl⟩ : ∃ w_ : World, w_ = w2 := ⟨_, rfl⟩
    go_wp2_with (first | (with_reducible refine wpl_alloc (o := ⟨some 3, _, _, _, _, _⟩) rfl rfl zero_id ?_))
    intro w1_ hb1_ hbw1_ hsz1_
    have HB1_ := Lib.hid (at_mk hb1_ len_id)
    have HBW1_ := Lib.hid hbw1_
    have HZ1_ := Lib.hid hsz1_
    clear hb1_ hbw1_ hsz1_
    go_wp2_with (first | (with_reducible refine wpl_storeb (o := ⟨none, .store _ _ _, _, _, _, _⟩) rfl rfl row_id HB1_.out.blk rfl rfl HB1_.out.len HY.out.len HY.out.one ?_))
    intro w2_ hb2_ hg2_ hsz2_
    have hb_ := var_grow HBW1_.out HZ1_.out hg2_
    have HX_ := Lib.hid (at_mk hb2_ HY.out.len)
    clear hb2_ hg2_ hsz2_ HB1_ HBW1_ HZ1_
    have HB_ := Lib.hid (HB.out.grow' hb_)
    clear HB
    have HB := HB_
    clear HB_
    have HX_ := Lib.hid (HX.out.grow hb_)
    clear HX
    have HX := HX_
    clear HX_
    generalize hg_ : w_.heap.size = g at HX_ ⊢
    clear hg_
    have HV := HX_
    clear hb_ HX_
    clear w1_
    try clear w_
    rename World => w_
    have HSV := Lib.hid HV.out.sl
    go_wp2_with fail
    obtain ⟨w5, hr5, hb5, hg5⟩ := run_copy_sl (P := Tryd.prog) (dT := 22) (sT := 22) (ty := 3) (dc := 64) (c := 32) el_u8.ht (by kernel_rfl) HX.out.blk HSV.out (show _ ≤ 64 by omega) (Nat.le_of_eq HX.out.len.symm) HY.out.one
    · rw [hr5]
      clear hr5
      have HX5 := Lib.hid (show At w5 w.heap.size 83 64 xs by
        refine at_mk ?_ HD.out.len
        have e := pad_of (sha key) (by rw [sha_length]; omega)
        rw [sha_length, ← HY.out.1] at e
        rw [HD.out.1, HP.out, sha_length, ← e]; exact hb5)
      have HB5 := Lib.hid (put_below HB.out HG.out hg5)
      clear hb5 hg5 HB HX HSV HV
      have HB := HB5; have HX := HX5; clear HB5 HX5
      clear w_
      obtain ⟨w_, rfl⟩ : ∃ w_ : World, w_ = w5 := ⟨_, rfl⟩
      go_wp2_with (first | (with_reducible refine wpl_loadb (o := ⟨some 14, _, _, _, _, _⟩) rfl rfl row_pad HX.out.blk rfl HX.out.len ?_) | (with_reducible refine wpl_storeb (o := ⟨none, .store _ _ _, _, _, _, _⟩) rfl rfl row_pad HX.out.blk rfl rfl HX.out.len HD.out.len HD.out.one ?_))
      intro w2_ hb2_ hg2_ hsz2_
      have HB_ := Lib.hid (put_below HB.out HG.out hg2_)
      have HX_ := Lib.hid (at_mk hb2_ HD.out.len)
      clear hb2_ hg2_ hsz2_ HB HX
      have HB := HB_
      have HX := HX_
      clear HB_ HX_
      try clear w_
      rename World => w_
      go_wp2_with fail
      exact ret_cell rfl HR.out HX.out.blk rfl HX.out.len rfl ⟨rfl, HB.out⟩
  · have HP := Lib.hid (show padB key = key ++ List.replicate (64 - key.length) 0 by unfold padB; rw [if_neg (by rw [HL.out]; exact h64)])
    have HA := Lib.hid (all_bytes key)
    go_enter Tryd.func57, Tryd.ntmps57
    go_wp2_with (first | (with_reducible refine wpl_alloc (o := ⟨some 2, _, _, _, _, _⟩) rfl rfl zero_pad ?_))
    intro w2_ hb2_ hb_ hsz2_
    have HX_ := Lib.hid (at_mk hb2_ len_pad)
    clear hb2_ hsz2_
    have HB_ := Lib.hid (HB.out.grow' hb_)
    clear HB
    have HB := HB_
    clear HB_
    have HS_ := Lib.hid (HS.out.grow hb_)
    clear HS
    have HS := HS_
    clear HS_
    have HT_ := Lib.hid (HT.out.grow hb_)
    clear HT
    have HT := HT_
    clear HT_
    have HX := HX_
    clear hb_ HX_
    try clear w_
    rename World => w_
    go_wp2_with fail
    obtain ⟨w5, hr5, hb5, hg5⟩ := run_copy_sl (P := Tryd.prog) (dT := 22) (sT := 22) (ty := 3) (dc := 64) (c := c) el_u8.ht (by kernel_rfl) HX.out.blk HS.out (show _ ≤ 64 by omega) (Nat.le_of_eq HX.out.len.symm) HA.out
    · rw [hr5]
      clear hr5
      have HX5 := Lib.hid (show At w5 w.heap.size 83 64 xs by
        refine at_mk ?_ HD.out.len
        have e := pad_of key (by rw [HL.out]; omega)
        rw [HL.out] at e
        rw [HD.out.1, HP.out, HL.out, ← e]; exact hb5)
      have HB5 := Lib.hid (put_below HB.out HG.out hg5)
      clear hb5 hg5 HB HX HS HT
      have HB := HB5; have HX := HX5; clear HB5 HX5
      clear w_
      obtain ⟨w_, rfl⟩ : ∃ w_ : World, w_ = w5 := ⟨_, rfl⟩
      go_wp2_with (first | (with_reducible refine wpl_loadb (o := ⟨some 14, _, _, _, _, _⟩) rfl rfl row_pad HX.out.blk rfl HX.out.len ?_) | (with_reducible refine wpl_storeb (o := ⟨none, .store _ _ _, _, _, _, _⟩) rfl rfl row_pad HX.out.blk rfl rfl HX.out.len HD.out.len HD.out.one ?_))
      intro w2_ hb2_ hg2_ hsz2_
      have HB_ := Lib.hid (put_below HB.out HG.out hg2_)
      have HX_ := Lib.hid (at_mk hb2_ HD.out.len)
      clear hb2_ hg2_ hsz2_ HB HX
      have HB := HB_
      have HX := HX_
      clear HB_ HX_
      try clear w_
      rename World => w_
      go_wp2_with fail
      exact ret_cell rfl HR.out HX.out.blk rfl HX.out.len rfl ⟨rfl, HB.out⟩
end Go.Proofs.YtlondennhhffdaaDoor

/- Contracts of layer 6: a digest's bytes, a key filled, a pad turned. -/
import Derived.Test.YtphmefhnffoafaaGreatDoorCertTurnedU6
import Derived.Laws.IdiomCopy
import Derived.Lib.Strings
import Derived.Lib.BitFns
set_option linter.unusedSimpArgs false
namespace Go.Proofs.YtphmefhnffoafaaGreatDoor
open Go.RowKit Go.Shelf
set_option linter.unusedVariables false
theorem Dig.at_ {xs : List Value} {d : List UInt8} (h : Dig xs d) {k : Nat} (hk : k < 32) : ∃ x : UInt8, xs[k]? = some (.int .u8 (b8 x)) ∧ d[k]? = some x := by
 have hl := h.2
 refine ⟨d[k]'(by omega), ?_, List.getElem?_eq_getElem (by omega)⟩
 rw [h.1, List.getElem?_map, List.getElem?_eq_getElem (by omega)]; rfl
set_option maxRecDepth 100000 in
set_option maxHeartbeats 1000000 in
theorem tbytes_any {xs : List Value} {d : List UInt8} (hx : Dig xs d) (w : World) :
  Calls Tryz.prog 59 #[.agg xs.toArray] w fun e w' => ∃ A' c', e = .returned (.slice A' 32 c') ∧ Sl w' w'.heap.size 1 A' 32 (d.map B) ∧ 32 ≤ c' ∧ Below w.heap.size w w' := by
 have HD := kp hx
 have HB := kp (Below.refl w.heap.size w)
 clear hx
 go_enter Tryz.func59, Tryz.ntmps59
 go_wp2_with (first | (with_reducible refine wpl_box (o := ⟨some 1, _, _, _, _, _⟩) rfl rfl rfl ?_))
 intro w2_ hb2_ hb_ hsz2_
 have HX_ := kp (at_mk hb2_ HD.out.len)
 clear hb2_ hsz2_
 replace HB := kp (HB.out.grow' hb_)
 have HX := HX_
 clear hb_ HX_
 try clear w_
 rename World => w_
 go_wp2_with fail
 go_loopw [3, 4] (fun v i wr => ∃ k : Nat, ∃ A' c', k ≤ 32 ∧ i = .int .i64 k ∧ v = .slice A' k c' ∧ Hid (wr.ownsRow (w.heap.size + 1) 5 1 (.slice A' k c') k (xs.take k)) ∧ Hid (Below w.heap.size w wr) ∧ Hid (At wr w.heap.size 24 32 xs)) (fun _ i _ => 32 - (intOf i).toNat)
 case atStart => exact ⟨0, none, 0, by omega, rfl, rfl, kp (by simpa using World.ownsRow_nil _ _ _ _), HB, HX⟩
 case round =>
  obtain ⟨k, A3, c3, hk, rfl, rfl, hown, hbw, hat⟩ := hrel
  clear HB HX
  by_cases hlt : k < 32
  ·obtain ⟨x, hx, _⟩ := HD.out.at_ hlt
   have hc := hat.out.blk.at_ hx
   have HXK := kp hx
   clear hx
   go_wp2_with (at_builtin; refine wpl_app1 rfl rfl el_u8 hown.out rfl (m := 1) rfl rfl ?_ ?_ ?_ ?_ ?_)
   ·rfl
   ·omega
   ·omega
   ·have := hat.out.lt; omega
   ·intro A4 c4 w4 ho hg hA
    have HO := kp (show w4.ownsRow (w.heap.size + 1) 5 1 (.slice A4 (k + 1) c4) (k + 1) (xs.take (k + 1)) by rw [List.take_add_one, HXK.out]; exact ho)
    have HB := kp (show Below w.heap.size w w4 from hbw.out.grown hg hbw.out.size (fun g hg => by have := own_from hown.out g hg; omega))
    have HX := kp (at_mk (hat.out.blk.grown hg (by intro hh; have := own_from hown.out _ hh.symm; omega)) hat.out.len)
    clear ho hg hA hc
    go_wp2_with fail
    go_roundw
    case rel => exact ⟨k + 1, A4, c4, by omega, by go_num, rfl, HO, HB, HX⟩
    case measure => simp [intOf]; omega
  ·obtain rfl : k = 32 := by omega
   have e : xs.take 32 = d.map B := by rw [List.take_of_length_le (by rw [HD.out.len]; exact Nat.le_refl _), HD.out.1]
   have HO := kp (e ▸ hown.out)
   clear e
   have HC := kp (own_form hown.out (by omega))
   go_wp2_with fail
   go_ret
   exact ⟨A3, c3, rfl, Sl.of_own HO.out, (by obtain ⟨g, _, _, _, h⟩ := HC.out; exact h), hbw.out⟩
theorem row_pad : RowT Tryz.prog 102 64 := ⟨_, Tryz.underlying102, by kernel_rfl, by kernel_rfl⟩
theorem zero_pad : (Tryz.prog.info? 102).map (·.zero) = some (some (.agg (List.replicate 64 (B 0)).toArray)) := by kernel_rfl
theorem len_pad {v : Value} : (List.replicate 64 v).length = 64 := by simp
def Pad (xs : List Value) (p : List UInt8) : Prop := xs = p.map B ∧ p.length = 64
theorem Pad.len {xs : List Value} {d : List UInt8} (h : Pad xs d) : xs.length = 64 := by rw [h.1, List.length_map, h.2]
theorem Pad.one {xs : List Value} {d : List UInt8} (h : Pad xs d) : ∀ u ∈ xs, u.oneCell' = true := by rw [h.1]; exact all_bytes d
def turnUpto (p : List UInt8) (m : UInt8) (k : Nat) : List UInt8 := (p.take k).map (· ^^^ m) ++ p.drop k
theorem turnUpto_len (p : List UInt8) (m : UInt8) (k : Nat) : (turnUpto p m k).length = p.length := by
 unfold turnUpto; rw [List.length_append, List.length_map, List.length_take, List.length_drop]; omega
theorem turnUpto_at (p : List UInt8) (m : UInt8) (k : Nat) (x : UInt8) (h : p[k]? = some x) : (turnUpto p m k)[k]? = some x := by
 have hk := (List.getElem?_eq_some_iff.1 h).1
 unfold turnUpto
 rw [List.getElem?_append_right (by rw [List.length_map, List.length_take]; omega), List.length_map, List.length_take, List.getElem?_drop]
 rw [show k + (k - min k p.length) = k by omega]; exact h
theorem turnUpto_set (p : List UInt8) (m : UInt8) (k : Nat) (x : UInt8) (h : p[k]? = some x) : (turnUpto p m k).set k (x ^^^ m) = turnUpto p m (k + 1) := by
 have hk := (List.getElem?_eq_some_iff.1 h).1
 unfold turnUpto
 rw [List.set_append_right _ _ (by rw [List.length_map, List.length_take]; omega), List.length_map, List.length_take, show k - min k p.length = 0 by omega, List.take_add_one, h]
 have hd : p.drop k = x :: p.drop (k + 1) := by rw [List.drop_eq_getElem_cons hk, (List.getElem?_eq_some_iff.1 h).2]
 rw [hd]
 simp
theorem turnUpto_all (p : List UInt8) (m : UInt8) (k : Nat) (h : p.length ≤ k) : turnUpto p m k = p.map (· ^^^ m) := by
 unfold turnUpto; rw [List.take_of_length_le h, List.drop_of_length_le h, List.append_nil]
attribute [irreducible] turnUpto
attribute [local go_sem high] xor_b
set_option maxRecDepth 100000 in
set_option maxHeartbeats 1000000 in
theorem turned_any {xs : List Value} {p : List UInt8} (hx : Pad xs p) (m : UInt8) (w : World) :
  Calls Tryz.prog 53 #[.agg xs.toArray, .int .u8 (b8 m)] w fun e w' => ∃ g, e = .returned (.slice (some ⟨g, 0, none⟩) 64 64) ∧ Sl w' w'.heap.size 1 (some ⟨g, 0, none⟩) 64 ((p.map (· ^^^ m)).map B) ∧ Below w.heap.size w w' := by
 have HD := kp hx
 have HB := kp (Below.refl w.heap.size w)
 clear hx
 go_enter Tryz.func53, Tryz.ntmps53
 go_wp2_with (first | (with_reducible refine wpl_box (o := ⟨some 2, _, _, _, _, _⟩) rfl rfl rfl ?_))
 intro w2_ hb2_ hb_ hsz2_
 have HX_ := kp (at_mk hb2_ HD.out.len)
 clear hb2_ hsz2_
 replace HB := kp (HB.out.grow' hb_)
 have HX := HX_
 clear hb_ HX_
 try clear w_
 rename World => w_
 go_wp2_with fail
 go_loopw [6] (fun i wr => ∃ k : Nat, k ≤ 64 ∧ i = .int .i64 k ∧ Hid (Below w.heap.size w wr) ∧ Hid (At wr w.heap.size 102 64 ((turnUpto p m k).map B))) (fun i _ => 64 - (intOf i).toNat)
 case atStart => exact ⟨0, by omega, rfl, HB, kp (by have := HX.out; rw [HD.out.1] at this; unfold turnUpto; simpa using this)⟩
 case round =>
  obtain ⟨k, hk, rfl, hbw, hat⟩ := hrel
  clear HB HX
  by_cases hlt : k < 64
  ·obtain ⟨x, hx⟩ : ∃ x, p[k]? = some x := ⟨_, List.getElem?_eq_getElem (by rw [HD.out.2]; exact hlt)⟩
   have hc := hat.out.blk.at_ (show ((turnUpto p m k).map B)[k]? = some (.int .u8 (b8 x)) by rw [List.getElem?_map, turnUpto_at p m k x hx]; rfl)
   have hfz := hat.out.blk.frozen k
   have gk : (k : Int) < 64 := by omega
   have HSX := kp (turnUpto_set p m k x hx)
   clear hx
   go_wp2_with fail
   go_roundw
   case rel =>
    refine ⟨k + 1, by omega, by go_num, kp (hbw.out.setCell (p := ⟨w.heap.size, k, none⟩) (Nat.le_refl _) _), kp (at_mk ?_ ?_)⟩
    ·have := hat.out.blk.set_ k (B (x ^^^ m))
     rw [← List.map_set, HSX.out] at this
     exact this
    ·rw [List.length_map, turnUpto_len]; exact HD.out.2
   case measure => simp [intOf]; omega
  ·obtain rfl : k = 64 := by omega
   have HO := kp (show At wr w.heap.size 102 64 ((p.map (· ^^^ m)).map B) by have := hat.out; rw [turnUpto_all _ _ _ (by rw [HD.out.2]; exact Nat.le_refl _)] at this; exact this)
   go_wp2_with fail
   go_ret
   exact ⟨_, rfl, HO.out.sl, hbw.out⟩
theorem run_copy_sl {P : Program} {w : World} {dT sT ty elem t : TypeId} (hu : P.underlying dT = some (.slice elem)) (hsz : (P.info? elem).map (·.size) = some 1)
  {go dl dc n c Bd : Nat} {A : Option Addr} {xs cs : List Value} (hb : Blk w go t xs) (hsl : Sl w Bd 1 A n cs) (hn : n ≤ dl) (hd : dl ≤ xs.length) (h1 : ∀ v ∈ cs, v.oneCell' = true) :
  ∃ w', (Builtin.copy_ #[dT, sT] ty #[.slice (some ⟨go, 0, none⟩) dl dc, .slice A n c]).run P w = .ok (goInt n) w' ∧ Blk w' go t (cs ++ xs.drop n) ∧ w.grownBy w' (some go) := by
 have hl : cs.length = n := hsl.len
 rcases Nat.eq_zero_or_pos n with h0 | h0
 ·subst h0
  have : cs = [] := List.eq_nil_of_length_eq_zero hl
  subst this
  exact ⟨w, run_copy_none (P := P) w dT sT ty elem _ A dl dc 0 c hu hsz (by simp), by simpa using hb, World.grownBy.refl w _⟩
 ·obtain ⟨b, off, rfl, _, hc⟩ := hsl.2 h0
  have hr := run_copy_row (P := P) w dT sT ty elem go 0 dl dc ⟨b, off, none⟩ n c xs.toArray t cs hu hsz hb (by rw [hl]; exact (Nat.min_eq_left hn).symm) (fun j v hv => by rw [Addr.add_lit]; exact hc j v hv) (by simp; omega) h1
  rw [hl] at hr
  refine ⟨_, hr, ?_, ?_⟩
  ·have := blk_setRow (xs := xs.toArray.toList.take 0 ++ cs ++ xs.toArray.toList.drop (0 + n)) hb
   simpa using this
  ·exact ⟨rfl, rfl, rfl, by simp, fun k _ hk => setRow_other w go k _ (fun e => hk (by simp [e]))⟩
def padB (key : List UInt8) : List UInt8 := (if 64 < key.length then sha key else key) ++ List.replicate (64 - (if 64 < key.length then sha key else key).length) 0
theorem padB_length (key : List UInt8) : (padB key).length = 64 := by
 unfold padB
 have := sha_length key
 split <;> simp <;> omega
theorem pad_of (k : List UInt8) (h : k.length ≤ 64) : k.map B ++ (List.replicate 64 (B 0)).drop k.length = (k ++ List.replicate (64 - k.length) 0).map B := by
 rw [List.map_append, List.drop_replicate, List.map_replicate]
theorem Pad.padB (key : List UInt8) : Pad ((padB key).map B) (padB key) := ⟨rfl, padB_length key⟩
set_option maxRecDepth 100000 in
set_option maxHeartbeats 1000000 in
theorem fill_any (A : Option Addr) (n c : Nat) (key : List UInt8) {xs : List Value} (hx : Pad xs (padB key)) (w : World) (hs : Sl w w.heap.size 1 A n (key.map B)) (hc : n ≤ c) (hn : n ≤ 1099511627776) (ht : Tabs w) :
  Calls Tryz.prog 51 #[.slice A n c] w fun e w' => e = .returned (.agg xs.toArray) ∧ Below w.heap.size w w' := by
 have HS := kp hs; have HT := kp ht; have HD := kp hx
 have HB := kp (Below.refl w.heap.size w)
 have HL := kp (show key.length = n by have := hs.len; simpa using this)
 have hr := row_pad
 have HR := kp hr
 clear hs ht hx hr
 have HG := kp (Nat.le_refl w.heap.size)
 by_cases h64 : 64 < n
 ·obtain ⟨ys, hys⟩ : ∃ ys, ys = (sha key).map B := ⟨_, rfl⟩
  have HY := kp (show Dig ys (sha key) by rw [hys]; exact Dig.sha key)
  have HP := kp (show padB key = sha key ++ List.replicate (64 - (sha key).length) 0 by unfold padB; rw [if_pos (by rw [HL.out]; exact h64)])
  clear hys
  go_enter Tryz.func51, Tryz.ntmps51
  go_wp2_with (first | (with_reducible refine wpl_alloc (o := ⟨some 2, _, _, _, _, _⟩) rfl rfl zero_pad ?_))
  intro w2_ hb2_ hb_ hsz2_
  have HX_ := kp (at_mk hb2_ len_pad)
  clear hb2_ hsz2_
  replace HB := kp (HB.out.grow' hb_)
  replace HS := kp (HS.out.grow hb_)
  replace HT := kp (HT.out.grow hb_)
  have HX := HX_
  clear hb_ HX_
  try clear w_
  rename World => w_
  go_wp2_with fail
  have ha := alloc_new w_ #[.slice A n c] 22
  have HP1 := kp (show Parts _ _ (some ⟨w_.heap.size, 0, none⟩) 1 [(.slice A n c, key)] from parts_blk ha.1 rfl (by intro p hp; simp only [List.mem_cons, List.not_mem_nil, or_false] at hp; subst hp; exact part_mk (HS.out.grow ha.2.1) hc))
  have HT1 := kp (HT.out.grow ha.2.1)
  have HX1 := kp (HX.out.grow ha.2.1)
  have HB1 := kp (HB.out.grow' ha.2.1)
  clear ha HS HT HX HB
  refine (dsum_any _ _ _ _ HY.out (by simp [cat]) _ HP1.out (by omega) (by rw [HL.out]; omega) HT1.out).mono ?_
  rintro e w2 ⟨rfl, hb_⟩
  have HX := kp (HX1.out.grow hb_)
  have HB := kp (HB1.out.grow' hb_)
  clear hb_ HX1 HB1 HT1 HP1
  obtain ⟨w_, rfl⟩ : ∃ w_ : World, w_ = w2 := ⟨_, rfl⟩
  go_wp2_with (first | (with_reducible refine wpl_alloc (o := ⟨some 3, _, _, _, _, _⟩) rfl rfl zero_id ?_))
  intro w1_ hb1_ hbw1_ hsz1_
  have HB1_ := kp (at_mk hb1_ len_id)
  have HBW1_ := kp hbw1_
  have HZ1_ := kp hsz1_
  clear hb1_ hbw1_ hsz1_
  go_wp2_with (first | (with_reducible refine wpl_storeb (o := ⟨none, .store _ _ _, _, _, _, _⟩) rfl rfl row_id HB1_.out.blk rfl rfl HB1_.out.len HY.out.len HY.out.one ?_))
  intro w2_ hb2_ hg2_ hsz2_
  have hb_ := var_grow HBW1_.out HZ1_.out hg2_
  have HX_ := kp (at_mk hb2_ HY.out.len)
  clear hb2_ hg2_ hsz2_ HB1_ HBW1_ HZ1_
  replace HB := kp (HB.out.grow' hb_)
  replace HX := kp (HX.out.grow hb_)
  generalize hg_ : w_.heap.size = g at HX_ ⊢
  clear hg_
  have HV := HX_
  clear hb_ HX_
  clear w1_
  try clear w_
  rename World => w_
  have HSV := kp HV.out.sl
  go_wp2_with fail
  obtain ⟨w5, hr5, hb5, hg5⟩ := run_copy_sl (P := Tryz.prog) (dT := 22) (sT := 22) (ty := 3) (dc := 64) (c := 32) el_u8.ht (by kernel_rfl) HX.out.blk HSV.out (show _ ≤ 64 by omega) (Nat.le_of_eq HX.out.len.symm) HY.out.one
  ·rw [hr5]
   clear hr5
   have HX5 := kp (show At w5 w.heap.size 102 64 xs by
    refine at_mk ?_ HD.out.len
    have e := pad_of (sha key) (by rw [sha_length]; omega)
    rw [sha_length, ← HY.out.1] at e
    rw [HD.out.1, HP.out, sha_length, ← e]; exact hb5)
   have HB5 := kp (put_below HB.out HG.out hg5)
   clear hb5 hg5 HB HX HSV HV
   have HB := HB5; have HX := HX5; clear HB5 HX5
   clear w_
   obtain ⟨w_, rfl⟩ : ∃ w_ : World, w_ = w5 := ⟨_, rfl⟩
   go_wp2_with (first | (with_reducible refine wpl_loadb (o := ⟨some 14, _, _, _, _, _⟩) rfl rfl row_pad HX.out.blk rfl HX.out.len ?_) | (with_reducible refine wpl_storeb (o := ⟨none, .store _ _ _, _, _, _, _⟩) rfl rfl row_pad HX.out.blk rfl rfl HX.out.len HD.out.len HD.out.one ?_))
   intro w2_ hb2_ hg2_ hsz2_
   replace HB := kp (put_below HB.out HG.out hg2_)
   replace HX := kp (at_mk hb2_ HD.out.len)
   clear hb2_ hg2_ hsz2_
   try clear w_
   rename World => w_
   go_wp2_with fail
   exact ret_cell rfl HR.out HX.out.blk rfl HX.out.len rfl ⟨rfl, HB.out⟩
 ·have HP := kp (show padB key = key ++ List.replicate (64 - key.length) 0 by unfold padB; rw [if_neg (by rw [HL.out]; exact h64)])
  have HA := kp (all_bytes key)
  go_enter Tryz.func51, Tryz.ntmps51
  go_wp2_with (first | (with_reducible refine wpl_alloc (o := ⟨some 2, _, _, _, _, _⟩) rfl rfl zero_pad ?_))
  intro w2_ hb2_ hb_ hsz2_
  have HX_ := kp (at_mk hb2_ len_pad)
  clear hb2_ hsz2_
  replace HB := kp (HB.out.grow' hb_)
  replace HS := kp (HS.out.grow hb_)
  replace HT := kp (HT.out.grow hb_)
  have HX := HX_
  clear hb_ HX_
  try clear w_
  rename World => w_
  go_wp2_with fail
  obtain ⟨w5, hr5, hb5, hg5⟩ := run_copy_sl (P := Tryz.prog) (dT := 22) (sT := 22) (ty := 3) (dc := 64) (c := c) el_u8.ht (by kernel_rfl) HX.out.blk HS.out (show _ ≤ 64 by omega) (Nat.le_of_eq HX.out.len.symm) HA.out
  ·rw [hr5]
   clear hr5
   have HX5 := kp (show At w5 w.heap.size 102 64 xs by
    refine at_mk ?_ HD.out.len
    have e := pad_of key (by rw [HL.out]; omega)
    rw [HL.out] at e
    rw [HD.out.1, HP.out, HL.out, ← e]; exact hb5)
   have HB5 := kp (put_below HB.out HG.out hg5)
   clear hb5 hg5 HB HX HS HT
   have HB := HB5; have HX := HX5; clear HB5 HX5
   clear w_
   obtain ⟨w_, rfl⟩ : ∃ w_ : World, w_ = w5 := ⟨_, rfl⟩
   go_wp2_with (first | (with_reducible refine wpl_loadb (o := ⟨some 14, _, _, _, _, _⟩) rfl rfl row_pad HX.out.blk rfl HX.out.len ?_) | (with_reducible refine wpl_storeb (o := ⟨none, .store _ _ _, _, _, _, _⟩) rfl rfl row_pad HX.out.blk rfl rfl HX.out.len HD.out.len HD.out.one ?_))
   intro w2_ hb2_ hg2_ hsz2_
   replace HB := kp (put_below HB.out HG.out hg2_)
   replace HX := kp (at_mk hb2_ HD.out.len)
   clear hb2_ hg2_ hsz2_
   try clear w_
   rename World => w_
   go_wp2_with fail
   exact ret_cell rfl HR.out HX.out.blk rfl HX.out.len rfl ⟨rfl, HB.out⟩
end Go.Proofs.YtphmefhnffoafaaGreatDoor
namespace Go.Proofs.YtphmefhnffoafaaGreatDoor
open Go.RowKit Go.Shelf
set_option linter.unusedVariables false
def longB (bs : List UInt8) : List UInt8 := beBytes bs.length 4 ++ bs
def underB (m : UInt8) (ls : List (List UInt8)) : List UInt8 := m :: ls.flatMap longB
theorem underB_snoc (m : UInt8) (ls : List (List UInt8)) (x : List UInt8) : underB m (ls ++ [x]) = underB m ls ++ (beBytes x.length 4 ++ x) := by
 unfold underB; rw [List.flatMap_append]; simp [longB]
theorem beBytes_len (v n : Nat) : (beBytes v n).length = n := by unfold beBytes; simp
theorem underB_le (m : UInt8) (ls : List (List UInt8)) (N : Nat) (h : ∀ l ∈ ls, l.length ≤ N) : (underB m ls).length ≤ 1 + ls.length * (4 + N) := by
 unfold underB
 induction ls with
 | nil => simp
 | cons x xs ih =>
  have h1 := h x (by simp)
  have h2 := ih fun l hl => h l (by simp [hl])
  simp only [List.flatMap_cons, List.length_cons, List.length_append, longB, beBytes_len, Nat.succ_mul] at *
  omega
theorem info_su8 : (Tryz.prog.info? 22).map (fun i => (i.zero, i.size, i.bytes)) = some (some (.slice none 0 0), 1, 24) := by kernel_rfl
theorem el_su8 : ElemT Tryz.prog 48 22 1 24 := elemT Tryz.underlying48 info_su8 rfl (by omega)
def PartIn (w : World) (row : Option Nat) (p : Value × List UInt8) : Prop := ∃ A c, p.1 = .slice A p.2.length c ∧ p.2.length ≤ c ∧ Sl w w.heap.size 1 A p.2.length (p.2.map B) ∧ (0 < p.2.length → A.map Addr.block ≠ row)
theorem PartIn.grow {w w2 : World} {row : Option Nat} {p : Value × List UInt8} (h : PartIn w row p) (k : Grow w w2) : PartIn w2 row p := by
 obtain ⟨A, c, h1, h2, h3, h4⟩ := h
 exact ⟨A, c, h1, h2, h3.grow k, h4⟩
theorem PartIn.step {w w2 : World} {row row' : Option Nat} {p : Value × List UInt8} (h : PartIn w row p) (hg : w.grownBy w2 row) (hA : row' = row ∨ ∃ j, row' = some (w.heap.size + j)) : PartIn w2 row' p := by
 obtain ⟨A, c, h1, h2, h3, h4⟩ := h
 refine ⟨A, c, h1, h2, ⟨h3.1, fun hn => ?_⟩, fun hn => ?_⟩
 ·obtain ⟨b, off, e, hb, hc⟩ := h3.2 hn
  refine ⟨b, off, e, Nat.lt_of_lt_of_le hb hg.size, fun j u hu => hg.cell (hc j u hu) ?_⟩
  have := h4 hn
  rw [e] at this
  exact this
 ·obtain ⟨b, off, e, hb, hc⟩ := h3.2 hn
  rcases hA with hA | ⟨j, hA⟩
  ·rw [hA]; exact h4 hn
  ·rw [hA, e]
   intro hh
   simp only [Option.map_some, Option.some.injEq] at hh
   omega
theorem PartIn.ok {w : World} {row : Option Nat} {p : Value × List UInt8} (h : PartIn w row p) : PartOK w w.heap.size p := by
 obtain ⟨A, c, h1, h2, h3, h4⟩ := h
 exact ⟨A, c, h1, h2, h3⟩
theorem PartIn.of {w : World} {row : Option Nat} {Bd : Nat} {p : Value × List UInt8} (h : PartOK w Bd p) (hB : Bd ≤ w.heap.size) (hr : ∀ g, row = some g → Bd ≤ g) : PartIn w row p := by
 obtain ⟨A, c, h1, h2, h3⟩ := h
 refine ⟨A, c, h1, h2, h3.more hB, fun hn hh => ?_⟩
 obtain ⟨b, off, e, hb, _⟩ := h3.2 hn
 rw [e] at hh
 have := hr b hh.symm
 omega
theorem PartIn.own {w : World} {row : Option Nat} {base n c : Nat} {A : Option Addr} {bs : List UInt8} (h : w.ownsRow base 5 1 (.slice A n c) n (bs.map B)) (hc : n ≤ c) (hr : ∀ g, row = some g → g < base) : PartIn w row (.slice A n c, bs) := by
 have e : bs.length = n := by have := h.1; simpa using this
 refine ⟨A, c, by rw [e], by rw [e]; exact hc, by rw [e]; exact Sl.of_own h, fun _ hh => ?_⟩
 have := own_from h
 rcases A with _ | a
 ·simp only [Option.map_none] at hh
  have h0 := (Sl.of_own h).2
  rename_i hpos
  obtain ⟨b, off, e2, _⟩ := h0 (by simp only at hpos; omega)
  cases e2
 ·have h1 := this a.block rfl
  have h2 := hr a.block hh.symm
  omega
def UInv (w wr : World) (A : Option Addr) (c k : Nat) (qs ps : List (Value × List UInt8)) (m : UInt8) : Prop :=
 wr.ownsRow (w.heap.size + 1) 22 1 (.slice A (2 * k + 1) c) (2 * k + 1) (qs.map Prod.fst) ∧ (∀ q ∈ qs, PartIn wr (A.map Addr.block) q) ∧ cat qs = underB m ((ps.take k).map Prod.snd) ∧ Below w.heap.size w wr ∧ At wr w.heap.size 24 32 (List.replicate 32 (B 0))
theorem u_step {w wr w2 w4 : World} {A A4 : Option Addr} {c c4 k g4 : Nat} {qs ps : List (Value × List UInt8)} {m : UInt8} {p : Value × List UInt8} (h : UInv w wr A c k qs ps m) (hp : PartOK wr w.heap.size p) (hk : ps[k]? = some p)
  (hb2 : Below wr.heap.size wr w2) (ho4 : w2.ownsRow wr.heap.size 5 1 (.slice (some ⟨g4, 0, none⟩) 4 4) 4 ((beBytes p.2.length 4).map B))
  (ho : w4.ownsRow (w.heap.size + 1) 22 1 (.slice A4 (2 * k + 1 + 2) c4) (2 * k + 1 + 2) (qs.map Prod.fst ++ [.slice (some ⟨g4, 0, none⟩) 4 4, p.1]))
  (hg : w2.grownBy w4 (A.map Addr.block)) (hA : A4.map Addr.block = A.map Addr.block ∨ A4.map Addr.block = some (w2.heap.size + 1)) :
  UInv w w4 A4 c4 (k + 1) (qs ++ [(.slice (some ⟨g4, 0, none⟩) 4 4, beBytes p.2.length 4), p]) ps m := by
 obtain ⟨h1, h2, h3, h4, h5⟩ := h
 have hA' : A4.map Addr.block = A.map Addr.block ∨ ∃ j, A4.map Addr.block = some (w2.heap.size + j) := hA.imp_right fun e => ⟨1, e⟩
 have hfrom := own_from h1
 have hlt : ∀ g, A.map Addr.block = some g → g < wr.heap.size := fun g hg => (h1.lt g (by cases A <;> simp_all [Value.ownBlock])).2
 have e : 2 * (k + 1) + 1 = 2 * k + 1 + 2 := by omega
 refine ⟨?_, ?_, ?_, ?_, ?_⟩
 ·rw [e, List.map_append]; exact ho
 ·intro q hq
  simp only [List.mem_append, List.mem_cons, List.not_mem_nil, or_false] at hq
  rcases hq with hq | rfl | rfl
  ·exact ((h2 q hq).grow hb2).step hg hA'
  ·exact (PartIn.own ho4 (Nat.le_refl _) hlt).step hg hA'
  ·exact ((PartIn.of hp h4.size (fun g hg => by have := hfrom g hg; omega)).grow hb2).step hg hA'
 ·have e2 : cat (qs ++ [(.slice (some ⟨g4, 0, none⟩) 4 4, beBytes p.2.length 4), p]) = cat qs ++ (beBytes p.2.length 4 ++ p.2) := by unfold cat; simp
  rw [e2, h3, List.take_add_one, hk, Option.toList_some, List.map_append, List.map_cons, List.map_nil, underB_snoc]
 ·exact (h4.trans (hb2.mono h4.size)).grown hg (Nat.le_trans h4.size hb2.size) fun g hg => by have := hfrom g hg; omega
 ·refine ⟨(h5.1.grow hb2).grown hg fun hh => ?_, h5.2⟩
  have := hfrom _ hh.symm
  omega
theorem u_end {w wr : World} {A : Option Addr} {c n : Nat} {qs ps : List (Value × List UInt8)} {m : UInt8} (h : UInv w wr A c n qs ps m) (hn : ps.length = n) : Parts wr wr.heap.size A (2 * n + 1) qs ∧ cat qs = underB m (ps.map Prod.snd) := by
 obtain ⟨h1, h2, h3, _, _⟩ := h
 refine ⟨parts_mk (Sl.of_own h1) fun q hq => (h2 q hq).ok, ?_⟩
 rw [h3, List.take_of_length_le (by omega)]
theorem u_start {w w1 : World} {m : UInt8} {ps : List (Value × List UInt8)} (h : Below w.heap.size w w1) (hz : w.heap.size + 1 ≤ w1.heap.size) (hr : At w1 w.heap.size 24 32 (List.replicate 32 (B 0))) :
  UInv w ((w1.alloc (.cells #[B m] 5)).alloc (.cells #[.slice (some ⟨w1.heap.size, 0, none⟩) 1 1] 22)) (some ⟨w1.heap.size + 1, 0, none⟩) 1 0 [(.slice (some ⟨w1.heap.size, 0, none⟩) 1 1, [m])] ps m := by
 have h1 := alloc_new w1 #[B m] 5
 have h2 := alloc_new (w1.alloc (.cells #[B m] 5)) #[.slice (some ⟨w1.heap.size, 0, none⟩) 1 1] 22
 refine ⟨?_, ?_, ?_, ?_, ?_⟩
 ·have := World.ownsRow_lit (base := w.heap.size + 1) (e := 22) (size := 1) (w1.alloc (.cells #[B m] 5)) #[.slice (some ⟨w1.heap.size, 0, none⟩) 1 1] 1 (by rw [h1.2.2]; omega) (by simp [maxLen]) rfl
  rw [h1.2.2] at this
  exact this
 ·intro q hq
  simp only [List.mem_cons, List.not_mem_nil, or_false] at hq
  subst hq
  refine PartIn.grow ⟨_, _, rfl, Nat.le_refl _, h1.1.sl rfl, fun _ hh => ?_⟩ h2.2.1
  simp only [Option.map_some, Option.some.injEq] at hh
  omega
 ·unfold cat; simp [underB]
 ·exact h.grow' (Grow.trans _ _ _ h1.2.1 h2.2.1)
 ·exact hr.grow (Grow.trans _ _ _ h1.2.1 h2.2.1)
attribute [irreducible] underB longB
set_option maxRecDepth 100000 in
set_option maxHeartbeats 1000000 in
theorem under_any (m : UInt8) (A : Option Addr) (n c : Nat) (ps : List (Value × List UInt8)) {xs : List Value} (hx : Dig xs (sha (underB m (ps.map Prod.snd)))) (w : World) (hp : Parts w w.heap.size A n ps) (hn : n ≤ 400000) (hl : ∀ p ∈ ps, p.2.length ≤ 1000000) (ht : Tabs w) :
  Calls Tryz.prog 78 #[B m, .slice A n c] w fun e w' => e = .returned (.agg xs.toArray) ∧ Below w.heap.size w w' := by
 have HT := kp ht; have HP := kp hp; have HD := kp hx; have HL := kp hl
 have HB := kp (Below.refl w.heap.size w)
 have HN := kp hp.len
 clear hp ht hx hl
 show Calls Tryz.prog 78 #[.int .u8 (b8 m), .slice A n c] w _
 go_enter Tryz.func78, Tryz.ntmps78
 go_wp2_with (first | (with_reducible refine wpl_alloc (o := ⟨some 4, _, _, _, _, _⟩) rfl rfl zero_id ?_))
 intro w2_ hb2_ hb_ hsz2_
 have HX_ := kp (at_mk hb2_ len_id)
 clear hb2_ hsz2_
 replace HB := kp (HB.out.grow' hb_)
 have HR := HX_
 clear hb_ HX_
 try clear w_
 rename World => w_
 have HS := kp (u_start (m := m) (ps := ps) HB.out (by have := HR.out.lt; omega) HR.out)
 go_wp2_with fail
 go_loopw [5, 13] (fun v i wr => ∃ k : Nat, ∃ A' c' qs, k ≤ n ∧ i = .int .i64 k ∧ v = .slice A' (2 * k + 1) c' ∧ Hid (UInv w wr A' c' k qs ps m)) (fun _ i _ => n - (intOf i).toNat)
 case atStart => exact ⟨0, _, _, _, by omega, rfl, rfl, HS⟩
 case round =>
  obtain ⟨k, A3, c3, qs, hk, rfl, rfl, hinv⟩ := hrel
  clear HS HB HR
  by_cases hlt : k < n
  ·obtain ⟨b, off, A2, c2, bs, rfl, hps, hc, hcc, hs⟩ := (HP.out.below hinv.out.2.2.2.1).at_ hlt
   have HPK := kp (show PartOK _ w.heap.size (.slice A2 bs.length c2, bs) from ⟨A2, c2, rfl, hcc, hs⟩)
   have HPS := kp hps
   have hbl : bs.length ≤ 1000000 := HL.out _ (List.mem_of_getElem? hps)
   have hb64 : bs.length < 18446744073709551616 := by omega
   clear hps hs hcc
   go_wp2_with fail
   refine (bytes_any bs.length 4 _ hb64 (by omega) (by omega)).mono ?_
   rintro e w2 ⟨g4, rfl, ho4, hb2⟩
   have HO4 := kp ho4; have HB2 := kp hb2
   clear ho4 hb2
   have HOA := kp (own_below hinv.out.1 HB2.out)
   have hbl2 := hbl
   go_wp2_with (at_builtin; refine wpl_app1 rfl rfl el_su8 HOA.out rfl (m := 2) rfl rfl ?_ ?_ ?_ ?_ ?_)
   ·exact ⟨rfl, rfl⟩
   ·omega
   ·omega
   ·have h1 := hinv.out.2.2.2.2.lt; have h2 := HB2.out.size; omega
   ·intro A4 c4 w4 ho hg hA
    have HI := kp (u_step hinv.out HPK.out HPS.out HB2.out HO4.out ho hg (hA.imp_right fun ⟨a, h1, h2⟩ => by rw [h1]; exact congrArg some h2))
    clear ho hg hA
    go_wp2_with fail
    go_roundw
    case rel => exact ⟨k + 1, A4, c4, _, by omega, by go_num, by congr 1 <;> omega, HI⟩
    case measure => simp [intOf]; omega
  ·obtain rfl : k = n := by omega
   have HE := kp (u_end hinv.out HN.out)
   have HT2 := kp (HT.out.below hinv.out.2.2.2.1)
   have HB := kp hinv.out.2.2.2.1
   have HR := kp hinv.out.2.2.2.2
   clear HT
   go_wp2_with fail
   refine (dsum_any _ _ _ _ HD.out HE.out.2 _ HE.out.1 (by omega) (Nat.le_trans (underB_le m _ 1000000 (fun l hl => by obtain ⟨p, hp, rfl⟩ := List.mem_map.1 hl; exact HL.out p hp)) (by rw [List.length_map, HN.out]; omega)) HT2.out).mono ?_
   rintro e w5 ⟨rfl, hb_⟩
   have HR5 := kp (HR.out.grow hb_)
   have HB5 := kp (HB.out.grow' hb_)
   clear hb_ HR HB HT2 HE hinv
   have HR := HR5; have HB := HB5; clear HR5 HB5
   have HG := kp (Nat.le_refl w.heap.size)
   go_wp2_with (first | (with_reducible refine wpl_storeb (o := ⟨none, .store _ _ _, _, _, _, _⟩) rfl rfl row_id HR.out.blk rfl rfl HR.out.len HD.out.len HD.out.one ?_))
   intro w2_ hb2_ hg2_ hsz2_
   replace HB := kp (put_below HB.out HG.out hg2_)
   replace HR := kp (at_mk hb2_ HD.out.len)
   clear hb2_ hg2_ hsz2_
   try clear w_
   rename World => w_
   go_wp2_with fail
   exact ret_cell rfl row_id HR.out.blk rfl HR.out.len rfl ⟨rfl, HB.out⟩
set_option maxRecDepth 100000 in
theorem len8tab_size' : (Lib.len8tab.size : Int) = 256 := by
 have : Lib.len8tab.size = 256 := by decide
 omega
theorem wrap_add' (k a b : Nat) (hk : k ≤ 56) (ha : a ≤ 8) (hb : b = k + a) : RowKit.wrap64 ((k : Int) + RowKit.wrap64 (a : Int)) = (b : Int) := by
 unfold RowKit.wrap64
 omega
theorem wrap_wrap' (a : Nat) (ha : a ≤ 8) : RowKit.wrap64 (RowKit.wrap64 (a : Int)) = (a : Int) := by
 unfold RowKit.wrap64
 omega
theorem len8_get' (y : Int) (h : y.toNat < Lib.len8tab.size) : ((Lib.len8tab[y.toNat]'h).toNat : Int) = Lib.len8 y := by
 unfold Lib.len8
 rw [getElem?_pos Lib.len8tab y.toNat h]
 rfl
set_option maxHeartbeats 4000000 in
set_option maxRecDepth 100000 in
theorem len64_any (x : Int) (w : World) (h0 : 0 ≤ x) (h1 : x ≤ 16777215) :
  Calls Tryz.prog 99 #[.int .u64 x] w fun e w' => e = .returned (.int .i64 (Lib.bitLen x.toNat)) ∧ w' = w := by
 have q1 : decide (4294967296 ≤ x) = false := by simp; omega
 go_enter Tryz.func99, Tryz.ntmps99
 go_wp2
 all_goals first
  | (go_ret; refine ⟨congrArg Ending.returned (congrArg (Value.int IntKind.i64) ?_), rfl⟩)
  | (exfalso
     have hs := len8tab_size'
     omega)
 all_goals first
  | (rw [len8_get' (x / 65536) _, Lib.len8_of (x / 65536) (by omega) (by omega)]
     have e : (x / 65536).toNat = x.toNat / 65536 := by omega
     have l := Lib.bitLen_le8' (x / 65536) (by omega) (by omega)
     have s := Lib.bitLen_shift16 x.toNat (by omega) (by omega)
     rw [e] at l ⊢
     exact wrap_add' 16 _ _ (by decide) l s)
  | (rw [len8_get' (x / 256) _, Lib.len8_of (x / 256) (by omega) (by omega)]
     have e : (x / 256).toNat = x.toNat / 256 := by omega
     have l := Lib.bitLen_le8' (x / 256) (by omega) (by omega)
     have s := Lib.bitLen_shift8 x.toNat (by omega) (by omega)
     rw [e] at l ⊢
     exact wrap_add' 8 _ _ (by decide) l s)
  | (rw [len8_get' x _, Lib.len8_of x (by omega) (by omega)]
     exact wrap_wrap' _ (Lib.bitLen_le8' x (by omega) (by omega)))
def halfN (n : Nat) : Nat := 2 ^ Nat.log2 (n - 1)
theorem halfN_lt {n : Nat} (h : 2 ≤ n) : halfN n < n := by
 unfold halfN
 have := Nat.log2_self_le (n := n - 1) (by omega)
 omega
theorem halfN_pos (n : Nat) : 0 < halfN n := Nat.two_pow_pos _
theorem halfN_of {n j : Nat} (h1 : 2 ^ j < n) (h2 : n ≤ 2 * 2 ^ j) : halfN n = 2 ^ j := by
 unfold halfN
 have : (n - 1).log2 = j := (Nat.log2_eq_iff (by omega)).2 ⟨by omega, by rw [Nat.pow_succ]; omega⟩
 rw [this]
theorem bitLenAux_log : ∀ (f x : Nat), x < 2 ^ f → x ≠ 0 → Lib.bitLenAux f x = Nat.log2 x + 1
 | 0, x, h, h0 => by simp at h; omega
 | f + 1, x, h, h0 => by
  unfold Lib.bitLenAux
  rw [if_neg h0]
  by_cases h2 : x / 2 = 0
  ·have hx : x = 1 := by omega
   subst hx
   cases f <;> simp [Lib.bitLenAux] <;> decide
  ·rw [bitLenAux_log f (x / 2) (by rw [Nat.pow_succ] at h; omega) h2]
   have : x.log2 = (x / 2).log2 + 1 := by
    rw [Nat.log2_def, if_pos (by omega)]
   omega
theorem bitLen_log {x : Nat} (h : x < 2 ^ 64) (h0 : x ≠ 0) : Lib.bitLen x = Nat.log2 x + 1 := bitLenAux_log 64 x h h0
set_option maxRecDepth 100000 in
theorem len_any (x : Nat) (w : World) (h1 : x ≤ 16777215) :
  Calls Tryz.prog 92 #[.int .u64 x] w fun e w' => e = .returned (.int .i64 (Lib.bitLen x)) ∧ w' = w := by
 go_enter Tryz.func92, Tryz.ntmps92
 go_wp2_with fail
 refine (len64_any x w (by omega) (by omega)).mono ?_
 rintro e w1 ⟨rfl, rfl⟩
 go_wp2_with fail
 go_ret
 exact ⟨rfl, rfl⟩
theorem log2_le24 {x : Nat} (h : x ≤ 16777215) : Nat.log2 x ≤ 23 := by
 by_cases h0 : x = 0
 ·subst h0; decide
 ·have := Nat.log2_lt (n := x) (k := 24) h0 |>.2 (by omega)
  omega
theorem pow_fit {j : Nat} (h : j ≤ 23) : (2 ^ j : Nat) ≤ 8388608 := Nat.le_trans (Nat.pow_le_pow_right (by omega) h) (by decide)
set_option maxRecDepth 100000 in
theorem first_any (n : Nat) (w : World) (h1 : 2 ≤ n) (h2 : n ≤ 16777216) :
  Calls Tryz.prog 80 #[.int .i64 n] w fun e w' => e = .returned (.int .i64 (halfN n)) ∧ w' = w := by
 have hl := bitLen_log (x := n - 1) (by omega) (by omega)
 have hj := log2_le24 (x := n - 1) (by omega)
 have hp := pow_fit hj
 have hu : halfN n = 2 ^ Nat.log2 (n - 1) := rfl
 have hc : ((n : Int) - 1) = ((n - 1 : Nat) : Int) := by omega
 have HC := kp hc
 have HU := kp hu
 have HLN := kp hl
 clear hl hu hc
 go_enter Tryz.func80, Tryz.ntmps80
 go_wp2_with fail
 rw [HC.out]
 refine (len_any (n - 1) _ (by omega)).mono ?_
 rintro e w1 ⟨rfl, rfl⟩
 rw [HLN.out]
 go_wp2_with fail
 go_ret
 refine ⟨congrArg Ending.returned (congrArg (Value.int IntKind.i64) ?_), rfl⟩
 have e : ((2 : Int) ^ Nat.log2 (n - 1)) = ((2 ^ Nat.log2 (n - 1) : Nat) : Int) := by simp
 rw [e, HU.out]
 generalize 2 ^ Nat.log2 (n - 1) = q at hp ⊢
 unfold RowKit.wrap64
 omega
set_option maxRecDepth 100000 in
theorem half_any (n : Nat) (w : World) (h1 : 2 ≤ n) (h2 : n ≤ 16777216) :
  Calls Tryz.prog 57 #[.int .i64 n] w fun e w' => e = .returned (.int .i64 (halfN n)) ∧ w' = w := by
 go_enter Tryz.func57, Tryz.ntmps57
 go_wp2_with fail
 go_loop [3] (fun v => ∃ p : Nat, v = .int .i64 p ∧ p < n ∧ 1 ≤ p ∧ Hid (∃ j, p = 2 ^ j)) (fun v => n - (intOf v).toNat)
 case atStart => exact ⟨1, rfl, by omega, by omega, kp ⟨0, rfl⟩⟩
 case round =>
  obtain ⟨p, rfl, hp, hp1, hj⟩ := hrel
  by_cases hlt : 2 * p < n
  ·go_wp2_with fail
   go_round
   case rel => exact ⟨2 * p, by go_num, by omega, by omega, kp (by obtain ⟨j, h⟩ := hj.out; exact ⟨j + 1, by rw [Nat.pow_succ]; omega⟩)⟩
   case measure => simp [intOf]; omega
  ·have HH := kp (show halfN n = p by obtain ⟨j, h⟩ := hj.out; rw [h]; exact halfN_of (by omega) (by omega))
   go_wp2_with fail
   go_ret
   exact ⟨by rw [HH.out]; rfl, rfl⟩
def leafB (b : List UInt8) : List UInt8 := sha (underB 1 [b])
def nodeB (a b : List UInt8) : List UInt8 := sha (underB 2 [a, b])
def noneB : List UInt8 := sha (underB 0 [])
theorem leafB_len (b : List UInt8) : (leafB b).length = 32 := sha_length _
theorem nodeB_len (a b : List UInt8) : (nodeB a b).length = 32 := sha_length _
theorem noneB_len : noneB.length = 32 := sha_length _
set_option maxRecDepth 100000 in
set_option maxHeartbeats 1000000 in
theorem leaf_any (A : Option Addr) (n c : Nat) (bs : List UInt8) {xs : List Value} (hx : Dig xs (leafB bs)) (w : World) (hs : Sl w w.heap.size 1 A n (bs.map B)) (hc : n ≤ c) (hn : n ≤ 1000000) (ht : Tabs w) :
  Calls Tryz.prog 79 #[.slice A n c] w fun e w' => e = .returned (.agg xs.toArray) ∧ Below w.heap.size w w' := by
 have HS := kp hs; have HT := kp ht; have HD := kp hx
 have HB := kp (Below.refl w.heap.size w)
 have HG := kp (Nat.le_refl w.heap.size)
 have hrid := row_id
 have HRI := kp hrid
 have HL := kp (show bs.length = n by have := hs.len; simpa using this)
 clear hs ht hx hrid
 go_enter Tryz.func79, Tryz.ntmps79
 go_wp2_with (first | (with_reducible refine wpl_alloc (o := ⟨some 2, _, _, _, _, _⟩) rfl rfl zero_id ?_))
 intro w2_ hb2_ hb_ hsz2_
 have HX_ := kp (at_mk hb2_ len_id)
 clear hb2_ hsz2_
 replace HB := kp (HB.out.grow' hb_)
 replace HS := kp (HS.out.grow hb_)
 replace HT := kp (HT.out.grow hb_)
 have HR := HX_
 clear hb_ HX_
 try clear w_
 rename World => w_
 go_wp2_with fail
 generalize hw_ : World.alloc w_ _ = w2_
 obtain ⟨hX_, hb_, hs_⟩ := alloc_eq hw_
 generalize hg_ : w_.heap.size = g at hX_ hs_ ⊢
 have HX := kp hX_
 clear hw_ hX_
 replace HB := kp (HB.out.grow' hb_)
 replace HR := kp (HR.out.grow hb_)
 replace HS := kp (HS.out.grow hb_)
 replace HT := kp (HT.out.grow hb_)
 clear hb_ hs_
 clear hg_
 try clear w_
 rename World => w_
 have HP := kp (show Parts w_ w_.heap.size (some ⟨g, 0, none⟩) 1 [(.slice A n c, bs)] from
  parts_blk HX.out rfl (by intro p hp; simp only [List.mem_cons, List.not_mem_nil, or_false] at hp; subst hp; exact part_mk HS.out hc))
 go_wp2_with fail
 refine (under_any 1 _ _ _ [(.slice A n c, bs)] HD.out _ HP.out (by omega) (by intro p hp; simp only [List.mem_cons, List.not_mem_nil, or_false] at hp; subst hp; rw [HL.out]; exact hn) HT.out).mono ?_
 rintro e w_ ⟨rfl, hb_⟩
 replace HB := kp (HB.out.grow' hb_)
 replace HR := kp (HR.out.grow hb_)
 clear hb_
 go_wp2_with (first | (with_reducible refine wpl_storeb (o := ⟨none, .store _ _ _, _, _, _, _⟩) rfl rfl row_id HR.out.blk rfl rfl HR.out.len HD.out.len HD.out.one ?_))
 intro w2_ hb2_ hg2_ hsz2_
 replace HB := kp (put_below HB.out HG.out hg2_)
 replace HR := kp (at_mk hb2_ HD.out.len)
 clear hb2_ hg2_ hsz2_
 try clear w_
 rename World => w_
 go_wp2_with fail
 exact ret_cell rfl HRI.out HR.out.blk rfl HR.out.len rfl ⟨rfl, HB.out⟩
set_option maxRecDepth 100000 in
set_option maxHeartbeats 1000000 in
theorem node_any {a b : List UInt8} {ys zs xs : List Value} (ha : Dig ys a) (hb : Dig zs b) (hx : Dig xs (nodeB a b)) (w : World) (ht : Tabs w) :
  Calls Tryz.prog 81 #[.agg ys.toArray, .agg zs.toArray] w fun e w' => e = .returned (.agg xs.toArray) ∧ Below w.heap.size w w' := by
 have HA := kp ha; have HBB := kp hb; have HT := kp ht; have HD := kp hx
 have HB := kp (Below.refl w.heap.size w)
 have hrid := row_id
 have HRI := kp hrid
 clear ha hb ht hx hrid
 go_enter Tryz.func81, Tryz.ntmps81
 go_wp2_with (first | (with_reducible refine wpl_box (o := ⟨some 2, _, _, _, _, _⟩) rfl rfl rfl ?_))
 intro w2_ hb2_ hb_ hsz2_
 have HX_ := kp (at_mk hb2_ HA.out.len)
 clear hb2_ hsz2_
 replace HB := kp (HB.out.grow' hb_)
 replace HT := kp (HT.out.grow hb_)
 have HV1 := HX_
 clear hb_ HX_
 try clear w_
 rename World => w_
 go_wp2_with (first | (with_reducible refine wpl_box (o := ⟨some 3, _, _, _, _, _⟩) rfl rfl rfl ?_))
 intro w2_ hb2_ hb_ hsz2_
 have HX_ := kp (at_mk hb2_ HBB.out.len)
 clear hb2_ hsz2_
 have HG_ := kp HB.out.size
 replace HB := kp (HB.out.grow' hb_)
 replace HT := kp (HT.out.grow hb_)
 replace HV1 := kp (HV1.out.grow hb_)
 generalize hg_ : w_.heap.size = g2 at HX_ HG_ ⊢
 clear hg_
 have HV2_g := HG_
 clear HG_
 have HV2 := HX_
 clear hb_ HX_
 try clear w_
 rename World => w_
 go_wp2_with (first | (with_reducible refine wpl_alloc (o := ⟨some 4, _, _, _, _, _⟩) rfl rfl zero_id ?_))
 intro w2_ hb2_ hb_ hsz2_
 have HX_ := kp (at_mk hb2_ len_id)
 clear hb2_ hsz2_
 have HG_ := kp HB.out.size
 replace HB := kp (HB.out.grow' hb_)
 replace HT := kp (HT.out.grow hb_)
 replace HV1 := kp (HV1.out.grow hb_)
 replace HV2 := kp (HV2.out.grow hb_)
 generalize hg_ : w_.heap.size = gr at HX_ HG_ ⊢
 clear hg_
 have HR_g := HG_
 clear HG_
 have HR := HX_
 clear hb_ HX_
 try clear w_
 rename World => w_
 have HG := HR_g
 try go_wp2_with fail
 repeat' (first | (with_reducible refine wp_plan (id := 1) Grow [0,0,3,3,3] (.get 0 (.get 1 (.act 2 (.act 3 (.act 4 .done))))) (by kernel_rfl) (by kernel_rfl) Grow.refl Grow.trans ?_) | go_values | go_skip | go_guarded | go_step | go_upon | go_back)
 intro w_ hd_
 have hb_ := hd_.grow
 replace HB := kp (HB.out.grow' hb_)
 replace HT := kp (HT.out.grow hb_)
 replace HV1 := kp (HV1.out.grow hb_)
 replace HV2 := kp (HV2.out.grow hb_)
 replace HR := kp (HR.out.grow hb_)
 clear hb_ hd_
 repeat ((first | refine pl_calm rfl rfl (by first | exact wanted_none rfl | (go_simp; done) | rfl) (fun w_ => by first | (go_simp; rfl) | (go_simp; done) | rfl) (fun K hK => ?_) | refine pl_skip rfl (by first | (go_simp; done) | rfl) (fun K hK => ?_) | refine pl_skipa rfl (by first | (go_simp; done) | rfl) (fun K hK => ?_)); go_simp; refine hK _ _ ?_; clear hK K)
 refine pl_act rfl (by first | exact wanted_none rfl | (go_simp; done) | rfl) (fun K hK => ?_)
 go_wp2_with fail
 generalize hw_ : World.alloc w_ _ = w2_
 obtain ⟨hX_, hb_, hs_⟩ := alloc_eq hw_
 generalize hg_ : w_.heap.size = g at hX_ hs_ ⊢
 refine hK _ _ (fun _ => hb_) ?_
 have HX := kp hX_
 clear hK K hw_ hX_
 replace HB := kp (HB.out.grow' hb_)
 replace HT := kp (HT.out.grow hb_)
 replace HV1 := kp (HV1.out.grow hb_)
 replace HV2 := kp (HV2.out.grow hb_)
 replace HR := kp (HR.out.grow hb_)
 clear hb_ hg_ hs_
 clear w_
 rename World => w_
 have HP := kp (show Parts w_ w_.heap.size (some ⟨g, 0, none⟩) 2 [(.slice (some ⟨w.heap.size, 0, none⟩) 32 32, a), (.slice (some ⟨g2, 0, none⟩) 32 32, b)] from
  parts_blk HX.out rfl (by intro p hp; simp only [List.mem_cons, List.not_mem_nil, or_false] at hp; rcases hp with rfl | rfl; exact part_mk (HA.out.bytes HV1.out.sl) (by omega); exact part_mk (HBB.out.bytes HV2.out.sl) (by omega)))
 refine pl_act rfl (by first | exact wanted_none rfl | (go_simp; done) | rfl) (fun K hK => ?_)
 go_wp2_with fail
 refine (under_any 2 _ _ _ [(.slice (some ⟨w.heap.size, 0, none⟩) 32 32, a), (.slice (some ⟨g2, 0, none⟩) 32 32, b)] HD.out _ HP.out (by omega) (by intro p hp; simp only [List.mem_cons, List.not_mem_nil, or_false] at hp; rcases hp with rfl | rfl; rw [HA.out.2]; omega; rw [HBB.out.2]; omega) HT.out).mono ?_
 rintro e w_ ⟨rfl, hb_⟩
 go_wp2_with fail
 refine hK _ _ (fun _ => hb_) ?_
 clear hK K
 replace HB := kp (HB.out.grow' hb_)
 replace HR := kp (HR.out.grow hb_)
 clear hb_
 clear HP
 refine pl_act rfl (by first | exact wanted_none rfl | (go_simp; done) | rfl) (fun K hK => ?_)
 show wpList _ _ _ [⟨none, .store _ _ _, _, _, _, _⟩] _ _
 go_wp2_with (first | (with_reducible refine wpl_storeb (o := ⟨none, .store _ _ _, _, _, _, _⟩) rfl rfl row_id HR.out.blk rfl rfl HR.out.len HD.out.len HD.out.one ?_))
 intro w2_ hb2_ hg2_ hsz2_
 replace HB := kp (put_below HB.out HG.out hg2_)
 replace HR := kp (at_mk hb2_ HD.out.len)
 clear hb2_ hg2_ hsz2_
 try clear w_
 rename World => w_
 go_wp2_with fail
 refine hK _ _ (fun h => by cases h) ?_
 clear hK K
 refine pl_done ?_
 go_wp2_with fail
 exact ret_cell rfl HRI.out HR.out.blk rfl HR.out.len rfl ⟨rfl, HB.out⟩
end Go.Proofs.YtphmefhnffoafaaGreatDoor

/- Contracts of layer 6: tag.Of, tag.Is. -/
import Derived.Test.YtphmefhnffoafaaGreatDoorCertTurnedU8
import Derived.Test.YtphmefhnffoafaaGreatDoorCertTurnedU12
import Derived.Test.YtphmefhnffoafaaGreatDoorCertTurnedU2
import Derived.Deep.Slices
set_option linter.unusedSimpArgs false
namespace Go.Proofs.YtphmefhnffoafaaGreatDoor
open Go.RowKit Go.Shelf
set_option linter.unusedVariables false
def tagB (key b : List UInt8) : List UInt8 := sha ((padB key).map (· ^^^ 92) ++ sha ((padB key).map (· ^^^ 54) ++ b))
theorem tagB_length (key b : List UInt8) : (tagB key b).length = 32 := sha_length _
set_option maxRecDepth 100000 in
set_option maxHeartbeats 1000000 in
theorem tof_any (A A2 : Option Addr) (n c n2 c2 : Nat) (key bs : List UInt8) {xs : List Value} (hx : Dig xs (tagB key bs)) (w : World) (hs : Sl w w.heap.size 1 A n (key.map B)) (hs2 : Sl w w.heap.size 1 A2 n2 (bs.map B)) (hc : n ≤ c) (hc2 : n2 ≤ c2) (hn : n ≤ 1099511627776) (hn2 : n2 ≤ 1000000) (ht : Tabs w) :
  Calls Tryz.prog 16 #[.slice A n c, .slice A2 n2 c2] w fun e w' => e = .returned (.agg xs.toArray) ∧ Below w.heap.size w w' := by
 have HS := kp hs; have HT := kp ht; have HD := kp hx; have HS2 := kp hs2
 have HB := kp (Below.refl w.heap.size w)
 have HL2 := kp (show bs.length = n2 by have := hs2.len; simpa using this)
 clear hs ht hx hs2
 have HG := kp (Nat.le_refl w.heap.size)
 obtain ⟨ps, hps⟩ : ∃ ps, ps = (padB key).map B := ⟨_, rfl⟩
 have HPD := kp (show Pad ps (padB key) by rw [hps]; exact Pad.padB key)
 obtain ⟨ys, hys⟩ : ∃ ys, ys = (sha ((padB key).map (· ^^^ 54) ++ bs)).map B := ⟨_, rfl⟩
 have HY := kp (show Dig ys _ by rw [hys]; exact Dig.sha _)
 have HPL := kp (padB_length key)
 have hrid := row_id
 have HRI := kp hrid
 clear hps hys hrid
 go_enter Tryz.func16, Tryz.ntmps16
 go_wp2_with (first | (with_reducible refine wpl_alloc (o := ⟨some 4, _, _, _, _, _⟩) rfl rfl zero_id ?_))
 intro w2_ hb2_ hb_ hsz2_
 have HX_ := kp (at_mk hb2_ len_id)
 clear hb2_ hsz2_
 replace HB := kp (HB.out.grow' hb_)
 replace HS := kp (HS.out.grow hb_)
 replace HS2 := kp (HS2.out.grow hb_)
 replace HT := kp (HT.out.grow hb_)
 have HR := HX_
 clear hb_ HX_
 try clear w_
 rename World => w_
 go_wp2_with fail
 refine (fill_any _ _ _ _ HPD.out _ HS.out hc hn HT.out).mono ?_
 rintro e w_ ⟨rfl, hb_⟩
 replace HB := kp (HB.out.grow' hb_)
 replace HR := kp (HR.out.grow hb_)
 replace HS2 := kp (HS2.out.grow hb_)
 replace HT := kp (HT.out.grow hb_)
 clear hb_
 go_wp2_with (first | (with_reducible refine wpl_alloc (o := ⟨some 5, _, _, _, _, _⟩) rfl rfl zero_pad ?_))
 intro w1_ hb1_ hbw1_ hsz1_
 have HB1_ := kp (at_mk hb1_ len_pad)
 have HBW1_ := kp hbw1_
 have HZ1_ := kp hsz1_
 clear hb1_ hbw1_ hsz1_
 go_wp2_with (first | (with_reducible refine wpl_storeb (o := ⟨none, .store _ _ _, _, _, _, _⟩) rfl rfl row_pad HB1_.out.blk rfl rfl HB1_.out.len HPD.out.len HPD.out.one ?_))
 intro w2_ hb2_ hg2_ hsz2_
 have hb_ := var_grow HBW1_.out HZ1_.out hg2_
 have HX_ := kp (at_mk hb2_ HPD.out.len)
 clear hb2_ hg2_ hsz2_ HB1_ HBW1_ HZ1_
 replace HB := kp (HB.out.grow' hb_)
 replace HR := kp (HR.out.grow hb_)
 replace HS2 := kp (HS2.out.grow hb_)
 replace HT := kp (HT.out.grow hb_)
 generalize hg_ : w_.heap.size = gv at HX_ ⊢
 clear hg_
 have HV := HX_
 clear hb_ HX_
 clear w1_
 try clear w_
 rename World => w_
 go_wp2_with (first | (with_reducible refine wpl_loadb (o := ⟨some 9, _, _, _, _, _⟩) rfl rfl row_pad HV.out.blk rfl HV.out.len ?_))
 go_wp2_with fail
 refine (turned_any HPD.out 54 _).mono ?_
 rintro e w_ ⟨g1, rfl, hs_, hb_⟩
 replace HB := kp (HB.out.grow' hb_)
 replace HR := kp (HR.out.grow hb_)
 replace HV := kp (HV.out.grow hb_)
 replace HS2 := kp (HS2.out.grow hb_)
 replace HT := kp (HT.out.grow hb_)
 clear hb_
 have HS1 := kp hs_
 clear hs_
 go_wp2_with fail
 generalize hw_ : World.alloc w_ _ = w2_
 obtain ⟨hX_, hb_, hs_⟩ := alloc_eq hw_
 generalize hg_ : w_.heap.size = g2 at hX_ hs_ ⊢
 have HX := kp hX_
 clear hw_ hX_
 replace HB := kp (HB.out.grow' hb_)
 replace HR := kp (HR.out.grow hb_)
 replace HV := kp (HV.out.grow hb_)
 replace HS2 := kp (HS2.out.grow hb_)
 replace HT := kp (HT.out.grow hb_)
 replace HS1 := kp (HS1.out.grow hb_)
 clear hb_ hs_
 clear hg_
 try clear w_
 rename World => w_
 have HP := kp (show Parts w_ w_.heap.size (some ⟨g2, 0, none⟩) 2 [(.slice (some ⟨g1, 0, none⟩) 64 64, (padB key).map (· ^^^ 54)), (.slice A2 n2 c2, bs)] from
  parts_blk HX.out rfl (by intro p hp; simp only [List.mem_cons, List.not_mem_nil, or_false] at hp; rcases hp with rfl | rfl; exact part_mk HS1.out (by omega); exact part_mk HS2.out hc2))
 go_wp2_with fail
 refine (dsum_any _ _ _ _ HY.out (by simp [cat]) _ HP.out (by omega) (by rw [List.length_append, List.length_map, HPL.out, HL2.out]; omega) HT.out).mono ?_
 rintro e w_ ⟨rfl, hb_⟩
 replace HB := kp (HB.out.grow' hb_)
 replace HR := kp (HR.out.grow hb_)
 replace HV := kp (HV.out.grow hb_)
 replace HT := kp (HT.out.grow hb_)
 clear hb_
 clear HP HX HS1
 go_wp2_with (first | (with_reducible refine wpl_alloc (o := ⟨some 6, _, _, _, _, _⟩) rfl rfl zero_id ?_))
 intro w1_ hb1_ hbw1_ hsz1_
 have HB1_ := kp (at_mk hb1_ len_id)
 have HBW1_ := kp hbw1_
 have HZ1_ := kp hsz1_
 clear hb1_ hbw1_ hsz1_
 go_wp2_with (first | (with_reducible refine wpl_storeb (o := ⟨none, .store _ _ _, _, _, _, _⟩) rfl rfl row_id HB1_.out.blk rfl rfl HB1_.out.len HY.out.len HY.out.one ?_))
 intro w2_ hb2_ hg2_ hsz2_
 have hb_ := var_grow HBW1_.out HZ1_.out hg2_
 have HX_ := kp (at_mk hb2_ HY.out.len)
 clear hb2_ hg2_ hsz2_ HB1_ HBW1_ HZ1_
 replace HB := kp (HB.out.grow' hb_)
 replace HR := kp (HR.out.grow hb_)
 replace HV := kp (HV.out.grow hb_)
 replace HT := kp (HT.out.grow hb_)
 generalize hg_ : w_.heap.size = gw at HX_ ⊢
 clear hg_
 have HW := HX_
 clear hb_ HX_
 clear w1_
 try clear w_
 rename World => w_
 try go_wp2_with fail
 repeat' (first | (with_reducible refine wp_plan (id := 3) Grow [2,3,0,3,3,3] (.get 0 (.get 2 (.act 1 (.act 3 (.act 4 (.act 5 .done)))))) (by kernel_rfl) (by kernel_rfl) Grow.refl Grow.trans ?_) | go_values | go_skip | go_guarded | go_step | go_upon | go_back)
 intro w_ hd_
 have hb_ := hd_.grow
 replace HB := kp (HB.out.grow' hb_)
 replace HR := kp (HR.out.grow hb_)
 replace HV := kp (HV.out.grow hb_)
 replace HW := kp (HW.out.grow hb_)
 replace HT := kp (HT.out.grow hb_)
 clear hb_ hd_
 repeat (first | (refine pl_calm rfl rfl (by first | exact wanted_none rfl | (go_simp; done) | rfl) (fun w_ => by first | (go_simp; rfl) | (go_simp; done) | rfl) (fun K hK => ?_); go_simp; refine hK _ _ ?_; clear hK K) | (refine pl_skip rfl (by first | (go_simp; done) | rfl) (fun K hK => ?_); go_simp; refine hK _ _ ?_; clear hK K) | (refine pl_skipa rfl (by first | (go_simp; done) | rfl) (fun K hK => ?_); go_simp; refine hK _ _ ?_; clear hK K) | (refine pl_loadb rfl rfl (by first | exact wanted_none rfl | (go_simp; done) | rfl) rfl row_pad HV.out.blk (by first | rfl | (go_simp; done) | rfl) HV.out.len (fun K hK => ?_); go_simp; refine hK _ _ ?_; clear hK K) | (refine pl_loadbnow rfl rfl (by first | exact wanted_none rfl | (go_simp; done) | rfl) rfl row_pad HV.out.blk (by first | rfl | (go_simp; done) | rfl) HV.out.len (fun K hK => ?_); go_simp; refine hK _ _ ?_; clear hK K))
 refine pl_act rfl (by first | exact wanted_none rfl | (go_simp; done) | rfl) (fun K hK => ?_)
 go_wp2_with fail
 refine (turned_any HPD.out 92 _).mono ?_
 rintro e w_ ⟨g3, rfl, hs_, hb_⟩
 go_wp2_with fail
 refine hK _ _ (fun _ => hb_) ?_
 clear hK K
 replace HB := kp (HB.out.grow' hb_)
 replace HR := kp (HR.out.grow hb_)
 replace HW := kp (HW.out.grow hb_)
 replace HT := kp (HT.out.grow hb_)
 clear hb_
 have HS1 := kp hs_
 clear hs_
 repeat ((first | refine pl_calm rfl rfl (by first | exact wanted_none rfl | (go_simp; done) | rfl) (fun w_ => by first | (go_simp; rfl) | (go_simp; done) | rfl) (fun K hK => ?_) | refine pl_skip rfl (by first | (go_simp; done) | rfl) (fun K hK => ?_) | refine pl_skipa rfl (by first | (go_simp; done) | rfl) (fun K hK => ?_)); go_simp; refine hK _ _ ?_; clear hK K)
 refine pl_act rfl (by first | exact wanted_none rfl | (go_simp; done) | rfl) (fun K hK => ?_)
 go_wp2_with fail
 generalize hw_ : World.alloc w_ _ = w2_
 obtain ⟨hX_, hb_, hs_⟩ := alloc_eq hw_
 generalize hg_ : w_.heap.size = g4 at hX_ hs_ ⊢
 refine hK _ _ (fun _ => hb_) ?_
 have HX := kp hX_
 clear hK K hw_ hX_
 replace HB := kp (HB.out.grow' hb_)
 replace HR := kp (HR.out.grow hb_)
 replace HW := kp (HW.out.grow hb_)
 replace HT := kp (HT.out.grow hb_)
 replace HS1 := kp (HS1.out.grow hb_)
 clear hb_ hg_ hs_
 clear w_
 rename World => w_
 have HP := kp (show Parts w_ w_.heap.size (some ⟨g4, 0, none⟩) 2 [(.slice (some ⟨g3, 0, none⟩) 64 64, (padB key).map (· ^^^ 92)), (.slice (some ⟨gw, 0, none⟩) 32 32, sha ((padB key).map (· ^^^ 54) ++ bs))] from
  parts_blk HX.out rfl (by intro p hp; simp only [List.mem_cons, List.not_mem_nil, or_false] at hp; rcases hp with rfl | rfl; exact part_mk HS1.out (by omega); exact part_mk (HY.out.bytes HW.out.sl) (by omega)))
 refine pl_act rfl (by first | exact wanted_none rfl | (go_simp; done) | rfl) (fun K hK => ?_)
 go_wp2_with fail
 refine (dsum_any _ _ _ _ HD.out (by simp [cat]) _ HP.out (by omega) (by rw [List.length_append, List.length_map, HPL.out, sha_length]; omega) HT.out).mono ?_
 rintro e w_ ⟨rfl, hb_⟩
 go_wp2_with fail
 refine hK _ _ (fun _ => hb_) ?_
 clear hK K
 replace HB := kp (HB.out.grow' hb_)
 replace HR := kp (HR.out.grow hb_)
 clear hb_
 clear HP
 refine pl_act rfl (by first | exact wanted_none rfl | (go_simp; done) | rfl) (fun K hK => ?_)
 show wpList _ _ _ [⟨none, .store _ _ _, _, _, _, _⟩] _ _
 go_wp2_with (first | (with_reducible refine wpl_storeb (o := ⟨none, .store _ _ _, _, _, _, _⟩) rfl rfl row_id HR.out.blk rfl rfl HR.out.len HD.out.len HD.out.one ?_))
 intro w2_ hb2_ hg2_ hsz2_
 replace HB := kp (put_below HB.out HG.out hg2_)
 replace HR := kp (at_mk hb2_ HD.out.len)
 clear hb2_ hg2_ hsz2_
 try clear w_
 rename World => w_
 go_wp2_with fail
 refine hK _ _ (fun h => by cases h) ?_
 clear hK K
 refine pl_done ?_
 go_wp2_with fail
 exact ret_cell rfl HRI.out HR.out.blk rfl HR.out.len rfl ⟨rfl, HB.out⟩
theorem same_dig {xs ys : List Value} {a b : List UInt8} (h : Dig xs a) (k : Dig ys b) (w : World) : Calls Tryz.prog 63 #[.agg xs.toArray, .agg ys.toArray] w fun e w' => e = .returned (.bool (decide (a = b))) ∧ Below w.heap.size w w' := by
 rw [h.1, k.1]; exact same_any a b w h.2 k.2
set_option maxRecDepth 100000 in
set_option maxHeartbeats 1000000 in
theorem tis_any (A A2 : Option Addr) (n c n2 c2 : Nat) (key bs t : List UInt8) {xs : List Value} (hx : Dig xs t) (w : World) (hs : Sl w w.heap.size 1 A n (key.map B)) (hs2 : Sl w w.heap.size 1 A2 n2 (bs.map B)) (hc : n ≤ c) (hc2 : n2 ≤ c2) (hn : n ≤ 1099511627776) (hn2 : n2 ≤ 1000000) (ht : Tabs w) :
  Calls Tryz.prog 65 #[.slice A n c, .slice A2 n2 c2, .agg xs.toArray] w fun e w' => e = .returned (.bool (decide (tagB key bs = t))) ∧ Below w.heap.size w w' := by
 have HS := kp hs; have HT := kp ht; have HD := kp hx; have HS2 := kp hs2
 have HB := kp (Below.refl w.heap.size w)
 clear hs ht hx hs2
 obtain ⟨ys, hys⟩ : ∃ ys, ys = (tagB key bs).map B := ⟨_, rfl⟩
 have HY := kp (show Dig ys (tagB key bs) from ⟨hys, tagB_length _ _⟩)
 clear hys
 go_enter Tryz.func65, Tryz.ntmps65
 go_wp2_with (first | (with_reducible refine wpl_box (o := ⟨some 5, _, _, _, _, _⟩) rfl rfl rfl ?_))
 intro w2_ hb2_ hb_ hsz2_
 have HX_ := kp (at_mk hb2_ HD.out.len)
 clear hb2_ hsz2_
 replace HB := kp (HB.out.grow' hb_)
 replace HS := kp (HS.out.grow hb_)
 replace HS2 := kp (HS2.out.grow hb_)
 replace HT := kp (HT.out.grow hb_)
 have HV := HX_
 clear hb_ HX_
 try clear w_
 rename World => w_
 try go_wp2_with fail
 repeat' (first | (with_reducible refine wp_plan (id := 1) Grow [0,0,4,1,3,0] (.get 0 (.get 1 (.get 3 (.act 2 (.act 4 (.get 5 .done)))))) (by kernel_rfl) (by kernel_rfl) Grow.refl Grow.trans ?_) | go_values | go_skip | go_guarded | go_step | go_upon | go_back)
 intro w_ hd_
 have hb_ := hd_.grow
 replace HB := kp (HB.out.grow' hb_)
 replace HV := kp (HV.out.grow hb_)
 replace HS := kp (HS.out.grow hb_)
 replace HS2 := kp (HS2.out.grow hb_)
 replace HT := kp (HT.out.grow hb_)
 clear hb_ hd_
 repeat (first | (refine pl_calm rfl rfl (by first | exact wanted_none rfl | (go_simp; done) | rfl) (fun w_ => by first | (go_simp; rfl) | (go_simp; done) | rfl) (fun K hK => ?_); go_simp; refine hK _ _ ?_; clear hK K) | (refine pl_skip rfl (by first | (go_simp; done) | rfl) (fun K hK => ?_); go_simp; refine hK _ _ ?_; clear hK K) | (refine pl_skipa rfl (by first | (go_simp; done) | rfl) (fun K hK => ?_); go_simp; refine hK _ _ ?_; clear hK K) | (refine pl_loadb rfl rfl (by first | exact wanted_none rfl | (go_simp; done) | rfl) rfl row_id HV.out.blk (by first | rfl | (go_simp; done) | rfl) HV.out.len (fun K hK => ?_); go_simp; refine hK _ _ ?_; clear hK K) | (refine pl_loadbnow rfl rfl (by first | exact wanted_none rfl | (go_simp; done) | rfl) rfl row_id HV.out.blk (by first | rfl | (go_simp; done) | rfl) HV.out.len (fun K hK => ?_); go_simp; refine hK _ _ ?_; clear hK K))
 refine pl_act rfl (by first | exact wanted_none rfl | (go_simp; done) | rfl) (fun K hK => ?_)
 go_wp2_with fail
 refine (tof_any _ _ _ _ _ _ _ _ HY.out _ HS.out HS2.out hc hc2 hn hn2 HT.out).mono ?_
 rintro e w_ ⟨rfl, hb_⟩
 go_wp2_with fail
 refine hK _ _ (fun _ => hb_) ?_
 clear hK K
 replace HB := kp (HB.out.grow' hb_)
 clear hb_
 repeat ((first | refine pl_calm rfl rfl (by first | exact wanted_none rfl | (go_simp; done) | rfl) (fun w_ => by first | (go_simp; rfl) | (go_simp; done) | rfl) (fun K hK => ?_) | refine pl_skip rfl (by first | (go_simp; done) | rfl) (fun K hK => ?_) | refine pl_skipa rfl (by first | (go_simp; done) | rfl) (fun K hK => ?_)); go_simp; refine hK _ _ ?_; clear hK K)
 refine pl_act rfl (by first | exact wanted_none rfl | (go_simp; done) | rfl) (fun K hK => ?_)
 go_wp2_with fail
 refine (same_dig HY.out HD.out _).mono ?_
 rintro e w_ ⟨rfl, hb_⟩
 go_wp2_with fail
 refine hK _ _ (fun _ => hb_) ?_
 clear hK K
 replace HB := kp (HB.out.grow' hb_)
 clear hb_
 repeat ((first | refine pl_calm rfl rfl (by first | exact wanted_none rfl | (go_simp; done) | rfl) (fun w_ => by first | (go_simp; rfl) | (go_simp; done) | rfl) (fun K hK => ?_) | refine pl_skip rfl (by first | (go_simp; done) | rfl) (fun K hK => ?_) | refine pl_skipa rfl (by first | (go_simp; done) | rfl) (fun K hK => ?_)); go_simp; refine hK _ _ ?_; clear hK K)
 refine pl_done ?_
 go_wp2_with fail
 go_ret
 exact ⟨rfl, HB.out⟩
def Apart (A O : Option Addr) : Prop := ∀ g, A.map Addr.block = some g → O.map Addr.block ≠ some g
theorem Apart.symm {A O : Option Addr} (h : Apart A O) : Apart O A := fun g h1 h2 => h g h2 h1
theorem apart_app {w : World} {base sz n c : Nat} {e : TypeId} {A A1 O : Option Addr} {xs : List Value} (h : Apart A O) (ho : w.ownsRow base e sz (.slice O n c) n xs) (hA : A1.map Addr.block = A.map Addr.block ∨ ∃ j, A1.map Addr.block = some (w.heap.size + j)) : Apart A1 O := by
 intro g h1 h2
 rcases hA with hA | ⟨j, hA⟩
 ·exact h g (hA ▸ h1) h2
 ·have := (ho.lt g (by cases O <;> simp_all [Value.ownBlock])).2
  rw [hA] at h1
  simp only [Option.some.injEq] at h1
  omega
theorem own_apart {w w2 : World} {base sz n c : Nat} {e : TypeId} {A O : Option Addr} {xs : List Value} (ho : w.ownsRow base e sz (.slice O n c) n xs) (hg : w.grownBy w2 (A.map Addr.block)) (h : Apart A O) : w2.ownsRow base e sz (.slice O n c) n xs :=
 own_kept ho hg fun g hO hh => h g hh.symm (by rw [hO]; rfl)
theorem app_new {w : World} {A A1 : Option Addr} {k : Nat} (h : A1.map Addr.block = A.map Addr.block ∨ ∃ a, A1 = some a ∧ a.block = w.heap.size + k) : A1.map Addr.block = A.map Addr.block ∨ ∃ j, A1.map Addr.block = some (w.heap.size + j) :=
 h.imp_right fun ⟨a, h1, h2⟩ => ⟨k, by rw [h1]; exact congrArg some h2⟩
def keyB (key : List UInt8) : List UInt8 := if 64 < key.length then sha key else key
theorem padB_key (key : List UInt8) : padB key = keyB key ++ List.replicate (64 - (keyB key).length) 0 := rfl
theorem padB_lt (key : List UInt8) (k : Nat) (x : UInt8) (h : (keyB key)[k]? = some x) : (padB key)[k]? = some x := by
 rw [padB_key, List.getElem?_append_left (List.getElem?_eq_some_iff.1 h).1]; exact h
theorem padB_ge (key : List UInt8) (k : Nat) (h : (keyB key).length ≤ k) (hk : k < 64) : (padB key)[k]? = some 0 := by
 rw [padB_key, List.getElem?_append_right h, List.getElem?_replicate, if_pos (by omega)]
def turnTo (p : List UInt8) (m : UInt8) (k : Nat) : List UInt8 := (p.take k).map (· ^^^ m)
theorem turnTo_snoc (p : List UInt8) (m : UInt8) (k : Nat) (x : UInt8) (h : p[k]? = some x) : turnTo p m (k + 1) = turnTo p m k ++ [x ^^^ m] := by
 unfold turnTo; rw [List.take_add_one, h]; simp
theorem turnTo_all (p : List UInt8) (m : UInt8) (k : Nat) (h : p.length ≤ k) : turnTo p m k = p.map (· ^^^ m) := by unfold turnTo; rw [List.take_of_length_le h]
attribute [irreducible] turnTo
theorem xor54 (x : UInt8) : Op.intBits .xor .u8 (b8 x) 54 = pure (.int .u8 (b8 (x ^^^ 54))) := xor_b x 54
theorem xor92 (x : UInt8) : Op.intBits .xor .u8 (b8 x) 92 = pure (.int .u8 (b8 (x ^^^ 92))) := xor_b x 92
def TInv (w wr : World) (A O : Option Addr) (c o k : Nat) (p : List UInt8) : Prop :=
 wr.ownsRow w.heap.size 5 1 (.slice A k c) k ((turnTo p 54 k).map B) ∧ wr.ownsRow w.heap.size 5 1 (.slice O k o) k ((turnTo p 92 k).map B) ∧ Apart A O ∧ Below w.heap.size w wr
theorem t_step {w wr w2 w3 : World} {A O A1 O1 : Option Addr} {c o c1 o1 k : Nat} {p : List UInt8} {x : UInt8} (hx : p[k]? = some x) (h : TInv w wr A O c o k p)
  (ho : w2.ownsRow w.heap.size 5 1 (.slice A1 (k + 1) c1) (k + 1) ((turnTo p 54 k).map B ++ [B (x ^^^ 54)])) (hg : wr.grownBy w2 (A.map Addr.block)) (hA : A1.map Addr.block = A.map Addr.block ∨ ∃ a, A1 = some a ∧ a.block = wr.heap.size + 1)
  (ho3 : w3.ownsRow w.heap.size 5 1 (.slice O1 (k + 1) o1) (k + 1) ((turnTo p 92 k).map B ++ [B (x ^^^ 92)])) (hg3 : w2.grownBy w3 (O.map Addr.block)) (hO : O1.map Addr.block = O.map Addr.block ∨ ∃ a, O1 = some a ∧ a.block = w2.heap.size + 1) :
  TInv w w3 A1 O1 c1 o1 (k + 1) p := by
 obtain ⟨h1, h2, h3, h4⟩ := h
 have a1 : Apart A1 O := apart_app h3 h2 (app_new hA)
 have o2 := own_apart h2 hg h3
 have a2 : Apart O1 A1 := apart_app a1.symm ho (app_new hO)
 refine ⟨?_, ?_, a2.symm, app_below (app_below h4 h1 hg) o2 hg3⟩
 ·rw [turnTo_snoc p 54 k x hx, List.map_append]; exact own_apart ho hg3 a1.symm
 ·rw [turnTo_snoc p 92 k x hx, List.map_append]; exact ho3
theorem t_mid {w wr w2 : World} {A O : Option Addr} {c o k : Nat} {p : List UInt8} (h : TInv w wr A O c o k p)
  (hg : wr.grownBy w2 (A.map Addr.block)) : w2.ownsRow w.heap.size 5 1 (.slice O k o) k ((turnTo p 92 k).map B) ∧ w.heap.size ≤ w2.heap.size :=
 ⟨own_apart h.2.1 hg h.2.2.1, Nat.le_trans h.2.2.2.size hg.size⟩
def zero8 : UInt8 := 0
theorem xor54z : Op.intBits .xor .u8 0 54 = pure (.int .u8 (b8 (zero8 ^^^ 54))) := xor_b 0 54
theorem xor92z : Op.intBits .xor .u8 0 92 = pure (.int .u8 (b8 (zero8 ^^^ 92))) := xor_b 0 92
theorem padB_z (key : List UInt8) (k : Nat) (h : (keyB key).length ≤ k) (hk : k < 64) : (padB key)[k]? = some zero8 := padB_ge key k h hk
attribute [irreducible] zero8
theorem tbytes_n {xs : List Value} {d : List UInt8} (hx : Dig xs d) (w : World) :
  Calls Tryz.prog 59 #[.agg xs.toArray] w fun e w' => ∃ A' n' c', e = .returned (.slice A' n' c') ∧ Sl w' w'.heap.size 1 A' n' (d.map B) ∧ Below w.heap.size w w' :=
 (tbytes_any hx w).mono fun e w' ⟨A', c', h1, h2, h3, h4⟩ => ⟨A', 32, c', h1, h2, h4⟩
attribute [local go_sem high] xor54 xor92 xor54z xor92z
set_option maxRecDepth 100000 in
set_option maxHeartbeats 2000000 in
theorem trof_any (A A2 : Option Addr) (n c n2 c2 : Nat) (key bs : List UInt8) {xs : List Value} (hx : Dig xs (tagB key bs)) (w : World) (hs : Sl w w.heap.size 1 A n (key.map B)) (hs2 : Sl w w.heap.size 1 A2 n2 (bs.map B)) (hn : n ≤ 1099511627776) (hn2 : n2 ≤ 1000000) :
  Calls Tryz.prog 58 #[.slice A n c, .slice A2 n2 c2] w fun e w' => e = .returned (.agg xs.toArray) ∧ Below w.heap.size w w' := by
 have HS := kp hs; have HD := kp hx; have HS2 := kp hs2
 have HB := kp (Below.refl w.heap.size w)
 have HL := kp (show key.length = n by have := hs.len; simpa using this)
 have HL2 := kp (show bs.length = n2 by have := hs2.len; simpa using this)
 clear hs hx hs2
 have HG := kp (Nat.le_refl w.heap.size)
 obtain ⟨ys, hys⟩ : ∃ ys, ys = (sha key).map B := ⟨_, rfl⟩
 have HY := kp (show Dig ys (sha key) by rw [hys]; exact Dig.sha _)
 obtain ⟨zs, hzs⟩ : ∃ zs, zs = (sha ((padB key).map (· ^^^ 54) ++ bs)).map B := ⟨_, rfl⟩
 have HZ := kp (show Dig zs _ by rw [hzs]; exact Dig.sha _)
 have HPL := kp (padB_length key)
 have hrid := row_id
 have HRI := kp hrid
 clear hys hzs hrid
 have HAB := kp (all_bytes bs)
 have HAZ := kp (all_bytes (sha ((padB key).map (· ^^^ 54) ++ bs)))
 by_cases h64 : 64 < n
 focus
  go_enter Tryz.func58, Tryz.ntmps58
  go_wp2_with (first | (with_reducible refine wpl_alloc (o := ⟨some 4, _, _, _, _, _⟩) rfl rfl zero_id ?_))
  intro w2_ hb2_ hb_ hsz2_
  have HX_ := kp (at_mk hb2_ len_id)
  clear hb2_ hsz2_
  replace HB := kp (HB.out.grow' hb_)
  replace HS := kp (HS.out.grow hb_)
  replace HS2 := kp (HS2.out.grow hb_)
  have HR := HX_
  clear hb_ HX_
  try clear w_
  rename World => w_
  go_wp2_with fail
  refine (dof_any _ _ _ HY.out _ HS.out hn).mono ?_
  rintro e w_ ⟨rfl, hb_⟩
  replace HB := kp (HB.out.grow' hb_)
  replace HR := kp (HR.out.grow hb_)
  replace HS2 := kp (HS2.out.grow hb_)
  clear hb_
  go_wp2_with fail
  refine (tbytes_n HY.out _).mono ?_
  rintro e w_ ⟨AK, nk, cK, rfl, hs_, hb_⟩
  replace HB := kp (HB.out.grow' hb_)
  replace HR := kp (HR.out.grow hb_)
  replace HS2 := kp (HS2.out.grow hb_)
  clear hb_
  have HK := kp (show Sl w_ w_.heap.size 1 AK nk ((keyB key).map B) by unfold keyB; rw [if_pos (by rw [HL.out]; exact h64)]; exact hs_)
  clear hs_ HS HL h64
  go_wp2_with fail
  generalize hna : Value.slice A n c = na
  clear hna
  clear hn
 rotate_left
 focus
  have HK := kp (show Sl w w.heap.size 1 A n ((keyB key).map B) by unfold keyB; rw [if_neg (by rw [HL.out]; exact h64)]; exact HS.out)
  go_enter Tryz.func58, Tryz.ntmps58
  go_wp2_with (first | (with_reducible refine wpl_alloc (o := ⟨some 4, _, _, _, _, _⟩) rfl rfl zero_id ?_))
  intro w2_ hb2_ hb_ hsz2_
  have HX_ := kp (at_mk hb2_ len_id)
  clear hb2_ hsz2_
  replace HB := kp (HB.out.grow' hb_)
  replace HK := kp (HK.out.grow hb_)
  replace HS2 := kp (HS2.out.grow hb_)
  have HR := HX_
  clear hb_ HX_
  try clear w_
  rename World => w_
  go_wp2_with fail
  clear HS HL h64
  clear hn
  generalize hnk : n = nk at HK ⊢
  clear hnk
 all_goals
  have HKL := kp (show (keyB key).length = nk by have := HK.out.len; simpa using this)
  go_loopw [5, 6, 7] (fun v u i wr => ∃ k : Nat, ∃ A' c' O' o', k ≤ 64 ∧ i = .int .i64 k ∧ v = .slice A' k c' ∧ u = .slice O' k o' ∧ Hid (TInv w_ wr A' O' c' o' k (padB key))) (fun _ _ i _ => 64 - (intOf i).toNat)
  case atStart => exact ⟨0, none, 0, none, 0, by omega, rfl, rfl, rfl, kp ⟨by unfold turnTo; exact World.ownsRow_nil _ _ _ _, by unfold turnTo; exact World.ownsRow_nil _ _ _ _, (by intro g h; cases h), Below.refl _ _⟩⟩
  case round =>
   obtain ⟨k, A3, c3, O3, o3, hk, rfl, rfl, rfl, hinv⟩ := hrel
   by_cases hlt : k < 64
   ·by_cases hkn : k < nk
    focus
     obtain ⟨b, off, u, rfl, hb, hu, hc⟩ := (HK.out.grow hinv.out.2.2.2).at_ hkn
     obtain ⟨x, hx⟩ : ∃ x, (keyB key)[k]? = some x := ⟨_, List.getElem?_eq_getElem (by rw [HKL.out]; exact hkn)⟩
     have hu2 : u = .int .u8 (b8 x) := by rw [List.getElem?_map, hx] at hu; cases hu; rfl
     subst hu2
     have HX := kp (padB_lt key k x hx)
     clear hx hu hb
    rotate_left
    focus
     have HX := kp (padB_z key k (by rw [HKL.out]; omega) hlt)
    all_goals
     have gk : (k : Int) < 64 := by omega
     go_wp2_with (at_builtin; refine wpl_app1 rfl rfl el_u8 hinv.out.1 rfl (m := 1) rfl rfl ?_ ?_ ?_ hinv.out.2.2.2.size ?_)
     ·rfl
     ·omega
     ·omega
     ·intro A4 c4 w4 ho hg hA
      have HM := kp (t_mid hinv.out hg)
      have HO := kp ho; have HG4 := kp hg; have HA4 := kp hA
      clear ho hg hA
      try clear hc
      go_wp2_with (at_builtin; refine wpl_app1 rfl rfl el_u8 HM.out.1 rfl (m := 1) rfl rfl ?_ ?_ ?_ HM.out.2 ?_)
      ·rfl
      ·omega
      ·omega
      ·intro O4 o4 w5 ho5 hg5 hO5
       have HI := kp (t_step HX.out hinv.out HO.out HG4.out HA4.out ho5 hg5 hO5)
       clear ho5 hg5 hO5 HO HG4 HA4 HM
       go_wp2_with fail
       go_roundw
       case rel => exact ⟨k + 1, A4, c4, O4, o4, by omega, by go_num, rfl, rfl, HI⟩
       case measure => simp [intOf]; omega
   ·obtain rfl : k = 64 := by omega
    have HR0 := kp (HR.out.grow hinv.out.2.2.2)
    have HB0 := kp (HB.out.grow' hinv.out.2.2.2)
    have HS0 := kp (HS2.out.grow hinv.out.2.2.2)
    have HI := kp hinv.out.1
    have HO := kp hinv.out.2.1
    have HAP := kp hinv.out.2.2.1
    have HIB := kp hinv.out.2.2.2
    have gk : ¬ ((64 : Nat) : Int) < 64 := by omega
    clear hinv
    go_wp2_with (at_builtin; refine wpl_apps rfl rfl el_u8 HI.out rfl HS0.out rfl HAB.out (by omega) (by omega) HIB.out.size ?_)
    ·intro A4 c4 w4 ho4 hg4 hA4
     have HG4 := kp (app_below HIB.out HI.out hg4)
     have HO4 := kp (own_apart HO.out hg4 HAP.out)
     have HI4 := kp (show Sl w4 w4.heap.size 1 A4 (64 + n2) (((padB key).map (· ^^^ 54) ++ bs).map B) by
      have h1 := Sl.of_own ho4
      rw [turnTo_all _ _ _ (by rw [HPL.out]; exact Nat.le_refl _)] at h1
      rw [List.map_append]; exact h1)
     clear ho4 hg4 hA4 HI HO HIB HS0 HR0 HB0
     go_wp2_with fail
     refine (dof_any _ _ _ HZ.out _ HI4.out (by omega)).mono ?_
     rintro e w5 ⟨rfl, hb5⟩
     have HG5 := kp (Grow.trans _ _ _ HG4.out hb5)
     have HO5 := kp (own_below HO4.out hb5)
     clear hb5 HG4 HO4 HI4
     go_wp2_with fail
     refine (tbytes_any HZ.out _).mono ?_
     rintro e w6 ⟨A6, c6, rfl, hs6, hc6, hb6⟩
     have HG6 := kp (Grow.trans _ _ _ HG5.out hb6)
     have HO6 := kp (own_below HO5.out hb6)
     have HS6 := kp hs6
     clear hb6 HG5 HO5 hs6 hc6
     go_wp2_with (at_builtin; refine wpl_apps rfl rfl el_u8 HO6.out rfl HS6.out rfl HAZ.out (by omega) (by omega) HG6.out.size ?_)
     ·intro A7 c7 w7 ho7 hg7 hA7
      have HG7 := kp (app_below HG6.out HO6.out hg7)
      have HI7 := kp (show Sl w7 w7.heap.size 1 A7 (64 + 32) (((padB key).map (· ^^^ 92) ++ sha ((padB key).map (· ^^^ 54) ++ bs)).map B) by
       have h1 := Sl.of_own ho7
       rw [turnTo_all _ _ _ (by rw [HPL.out]; exact Nat.le_refl _)] at h1
       rw [List.map_append]; exact h1)
      clear ho7 hg7 hA7 HG6 HO6 HS6
      go_wp2_with fail
      refine (dof_any _ _ _ HD.out _ HI7.out (by omega)).mono ?_
      rintro e w8 ⟨rfl, hb8⟩
      have HG8 := kp (Grow.trans _ _ _ HG7.out hb8)
      have HR8 := kp (HR.out.grow HG8.out)
      have HB8 := kp (HB.out.grow' HG8.out)
      clear hb8 HG7 HI7 HG8 HR HB
      have HR := HR8; have HB := HB8; clear HR8 HB8
      go_wp2_with (first | (with_reducible refine wpl_storeb (o := ⟨none, .store _ _ _, _, _, _, _⟩) rfl rfl row_id HR.out.blk rfl rfl HR.out.len HD.out.len HD.out.one ?_))
      intro w2_ hb2_ hg2_ hsz2_
      replace HB := kp (put_below HB.out HG.out hg2_)
      replace HR := kp (at_mk hb2_ HD.out.len)
      clear hb2_ hg2_ hsz2_
      try clear w_
      rename World => w_
      go_wp2_with fail
      exact ret_cell rfl HRI.out HR.out.blk rfl HR.out.len rfl ⟨rfl, HB.out⟩
set_option maxRecDepth 100000 in
set_option maxHeartbeats 1000000 in
theorem trsign_any (A A2 : Option Addr) (n c n2 c2 : Nat) (seed bs : List UInt8) (s : Nat) (hs64 : s < 256) {xs : List Value} (hx : Dig xs (tagB (tagB seed [UInt8.ofNat s]) bs)) (w : World) (hs : Sl w w.heap.size 1 A n (seed.map B)) (hs2 : Sl w w.heap.size 1 A2 n2 (bs.map B)) (hn : n ≤ 1099511627776) (hn2 : n2 ≤ 1000000) :
  Calls Tryz.prog 20 #[.slice A n c, .int .i64 s, .slice A2 n2 c2] w fun e w' => e = .returned (.agg xs.toArray) ∧ Below w.heap.size w w' := by
 have HS := kp hs; have HD := kp hx; have HS2 := kp hs2
 have HB := kp (Below.refl w.heap.size w)
 clear hs hx hs2
 have HG := kp (Nat.le_refl w.heap.size)
 obtain ⟨ys, hys⟩ : ∃ ys, ys = (tagB seed [UInt8.ofNat s]).map B := ⟨_, rfl⟩
 have HY := kp (show Dig ys (tagB seed [UInt8.ofNat s]) from ⟨hys, tagB_length _ _⟩)
 have HW := kp (show Value.int .u8 (s : Int) = B (UInt8.ofNat s) by simp only [B, b8, UInt8.toNat_ofNat']; congr 1; omega)
 have hrid := row_id
 have HRI := kp hrid
 clear hys hrid
 have q8 : IntKind.u8.wrap (s : Int) = (s : Int) := IntWalk.u8_in _ (by omega)
 go_enter Tryz.func20, Tryz.ntmps20
 go_wp2_with (first | (with_reducible refine wpl_alloc (o := ⟨some 6, _, _, _, _, _⟩) rfl rfl zero_id ?_))
 intro w2_ hb2_ hb_ hsz2_
 have HX_ := kp (at_mk hb2_ len_id)
 clear hb2_ hsz2_
 replace HB := kp (HB.out.grow' hb_)
 replace HS := kp (HS.out.grow hb_)
 replace HS2 := kp (HS2.out.grow hb_)
 have HR := HX_
 clear hb_ HX_
 try clear w_
 rename World => w_
 go_wp2_with fail
 generalize hw_ : World.alloc w_ _ = w2_
 obtain ⟨hX_, hb_, hs_⟩ := alloc_eq hw_
 generalize hg_ : w_.heap.size = g at hX_ hs_ ⊢
 have HX := kp hX_
 clear hw_ hX_
 replace HB := kp (HB.out.grow' hb_)
 replace HS := kp (HS.out.grow hb_)
 replace HS2 := kp (HS2.out.grow hb_)
 replace HR := kp (HR.out.grow hb_)
 clear hb_ hs_
 clear hg_
 try clear w_
 rename World => w_
 have HS1 := kp (show Sl w_ w_.heap.size 1 (some ⟨g, 0, none⟩) 1 ([UInt8.ofNat s].map B) by have h := HX.out.sl (sz := 1) (n := 1) rfl; rw [show [Value.int .u8 (s : Int)] = [UInt8.ofNat s].map B by simp [HW.out]] at h; exact h)
 go_wp2_with fail
 refine (trof_any _ _ _ _ _ _ _ _ HY.out _ HS.out HS1.out hn (by omega)).mono ?_
 rintro e w_ ⟨rfl, hb_⟩
 replace HB := kp (HB.out.grow' hb_)
 replace HS2 := kp (HS2.out.grow hb_)
 replace HR := kp (HR.out.grow hb_)
 clear hb_
 go_wp2_with fail
 refine (tbytes_any HY.out _).mono ?_
 rintro e w_ ⟨A3, c3, rfl, hs_, hc_, hb_⟩
 replace HB := kp (HB.out.grow' hb_)
 replace HS2 := kp (HS2.out.grow hb_)
 replace HR := kp (HR.out.grow hb_)
 clear hb_
 have HS3 := kp hs_
 clear hs_ hc_
 go_wp2_with fail
 refine (trof_any _ _ _ _ _ _ _ _ HD.out _ HS3.out HS2.out (by omega) hn2).mono ?_
 rintro e w_ ⟨rfl, hb_⟩
 replace HB := kp (HB.out.grow' hb_)
 replace HR := kp (HR.out.grow hb_)
 clear hb_
 go_wp2_with (first | (with_reducible refine wpl_storeb (o := ⟨none, .store _ _ _, _, _, _, _⟩) rfl rfl row_id HR.out.blk rfl rfl HR.out.len HD.out.len HD.out.one ?_))
 intro w2_ hb2_ hg2_ hsz2_
 replace HB := kp (put_below HB.out HG.out hg2_)
 replace HR := kp (at_mk hb2_ HD.out.len)
 clear hb2_ hg2_ hsz2_
 try clear w_
 rename World => w_
 go_wp2_with fail
 exact ret_cell rfl HRI.out HR.out.blk rfl HR.out.len rfl ⟨rfl, HB.out⟩
end Go.Proofs.YtphmefhnffoafaaGreatDoor
namespace Go.Proofs.YtphmefhnffoafaaGreatDoor
open Go.RowKit Go.ChangeShapes Go.WideShapes Go.Deep
set_option linter.unusedVariables false
section
variable {H : Type} {enc : TypeId × Value → H} {P : Program} {w : World} {r : Reach} {b0 base : Nat} {spare : Nat → Bool} {held : Bool}
theorem flat_len {α : Type} {f : α → List Value} {sz : Nat} : ∀ {l : List α}, (∀ x ∈ l, (f x).length = sz) → (l.flatMap f).length = l.length * sz
 | [], _ => by simp
 | x :: l, h => by
  rw [List.flatMap_cons, List.length_append, h x (by simp), flat_len (l := l) (fun y hy => h y (by simp [hy])), List.length_cons, Nat.succ_mul, Nat.add_comm]
theorem flat_at {α : Type} {f : α → List Value} {sz : Nat} : ∀ {l : List α}, (∀ x ∈ l, (f x).length = sz) → 0 < sz → ∀ {j : Nat} {u : Value}, (l.flatMap f)[j]? = some u → ∃ x, l[j / sz]? = some x ∧ (f x)[j % sz]? = some u
 | [], _, _, j, u, hu => by simp at hu
 | x :: l, h, h0, j, u, hu => by
  rw [List.flatMap_cons] at hu
  have hx := h x (by simp)
  by_cases hj : j < sz
  ·rw [List.getElem?_append_left (by omega)] at hu
   refine ⟨x, by rw [Nat.div_eq_of_lt hj]; rfl, by rw [Nat.mod_eq_of_lt hj]; exact hu⟩
  ·rw [List.getElem?_append_right (by omega), hx] at hu
   obtain ⟨y, h1, h2⟩ := flat_at (l := l) (fun y hy => h y (by simp [hy])) h0 hu
   have e1 : j / sz = (j - sz) / sz + 1 := by rw [← Nat.div_eq_sub_div h0 (by omega)]
   have e2 : j % sz = (j - sz) % sz := by rw [Nat.mod_eq_sub_mod (by omega)]
   exact ⟨y, by rw [e1, List.getElem?_cons_succ]; exact h1, by rw [e2]; exact h2⟩
theorem open_list0 {α : Type} [Inhabited α] (f : α → List Value) (ok : α → Prop) {t e : TypeId} {fuel : Nat} {cs : List Value} {y : DataW H × List MemPlace} {sz : Nat} (ht : P.underlying t = some (.slice e)) (hce : P.cellsOf e = sz) (hsz : 0 < sz)
  (helem : ∀ fuel cs y, cs.length = sz → DataW.trod enc P w base spare held fuel e cs = some y → ∃ x, cs = f x ∧ ok x)
  (hf : DataW.trod enc P w base spare held fuel t cs = some y) :
  ∃ A n c, ∃ l : List α, cs = [.slice A n c] ∧ l.length = n ∧ n ≤ c ∧ c ≤ maxLen ∧ Sl w w.heap.size sz A n (l.flatMap f) ∧ (∀ x ∈ l, ok x) ∧ (∀ x ∈ l, (f x).length = sz) := by
 rcases open_slice ht hf with ⟨hcs, _⟩ | ⟨a, n, c, m, k, D, Pl, hcs, _, hl, hm, hmm, _, hx⟩
 ·subst hcs
  exact ⟨none, 0, 0, [], rfl, rfl, Nat.le_refl _, Nat.zero_le _, ⟨by simp, fun h => absurd h (by omega)⟩, by simp, by simp⟩
 ·subst hcs
  have hle : n ≤ m := by rw [hmm]; split <;> omega
  rw [hce] at hx
  obtain ⟨X, hX⟩ := choose_lt (n := n) (p := fun i (x : α) => w.cells? base (a.add (i * sz)) sz = some (f x) ∧ (f x).length = sz ∧ ok x) (fun i hi => by
   obtain ⟨cs', h1, h2⟩ := hx i (by omega)
   obtain ⟨_, hlen, _⟩ := World.cells?_some h1
   obtain ⟨x, e, hok⟩ := helem _ _ _ hlen h2
   exact ⟨x, by rw [← e]; exact h1, by rw [← e]; exact hlen, hok⟩)
  have hlen : ∀ x ∈ (List.range n).map X, (f x).length = sz := by
   intro x hx
   obtain ⟨i, hi, rfl⟩ := List.mem_map.1 hx
   exact (hX i (by simpa using hi)).2.1
  refine ⟨some a, n, c, (List.range n).map X, rfl, by simp, hl, hm, ⟨by rw [flat_len hlen]; simp, fun hn => ?_⟩, ?_, hlen⟩
  ·obtain ⟨b, off, spot⟩ := a
   obtain ⟨_, _, h0⟩ := World.cells?_some (hX 0 hn).1
   have h00 := h0 0 hsz
   have hc0 : ∃ u, w.cell? ((Addr.add ⟨b, off, spot⟩ (0 * sz)).add 0) = some u := ⟨_, by rw [h00, List.getElem?_eq_getElem (by rw [(hX 0 hn).2.1]; exact hsz)]⟩
   obtain ⟨u0, hu0⟩ := hc0
   have hspot : spot = none := by simpa [Addr.add] using World.cell?_spot hu0
   subst hspot
   refine ⟨b, off, rfl, by have := World.block_lt_of_cell? w _ hu0; simpa [Addr.add] using this, fun j u hu => ?_⟩
   obtain ⟨x, h1, h2⟩ := flat_at hlen hsz hu
   rw [List.getElem?_map] at h1
   obtain ⟨i, h3, rfl⟩ := Option.map_eq_some_iff.1 h1
   have hi : j / sz = i ∧ i < n := by
    rcases Nat.lt_or_ge (j / sz) n with hl | hl
    ·rw [List.getElem?_range hl] at h3; cases h3; exact ⟨rfl, hl⟩
    ·rw [List.getElem?_eq_none (by simpa using hl)] at h3; cases h3
   obtain ⟨_, _, hc⟩ := World.cells?_some (hX i hi.2).1
   have := hc (j % sz) (Nat.mod_lt _ hsz)
   rw [h2, Addr.add_lit, Addr.add_lit] at this
   rw [← this, ← hi.1]
   have := Nat.div_add_mod j sz
   have e : off + j = off + j / sz * sz + j % sz := by rw [Nat.mul_comm] at this; omega
   rw [e]
  ·intro x hx
   obtain ⟨i, hi, rfl⟩ := List.mem_map.1 hx
   exact (hX i (by simpa using hi)).2.2
theorem open_list {α : Type} [Inhabited α] (f : α → List Value) (ok : α → Prop) {t e : TypeId} {v : Value} {d : DataW H} {ps : List MemPlace} {sz : Nat} (ht : P.underlying t = some (.slice e)) (hce : P.cellsOf e = sz) (hsz : 0 < sz)
  (helem : ∀ fuel cs y, cs.length = sz → DataW.trod enc P w base spare held fuel e cs = some y → ∃ x, cs = f x ∧ ok x)
  (hval : Value.okWide P w r b0 t v) (h : DataW.Trod enc P w base spare held t v d ps) :
  ∃ A n c, ∃ l : List α, v = .slice A n c ∧ l.length = n ∧ n ≤ c ∧ c ≤ maxLen ∧ Sl w w.heap.size sz A n (l.flatMap f) ∧ (∀ x ∈ l, ok x) ∧ (∀ x ∈ l, (f x).length = sz) := by
 obtain ⟨A, n, c, rfl⟩ := okWide_slice ht hval
 obtain ⟨fuel, hf⟩ := h
 obtain ⟨A', n', c', l, h1, hr⟩ := open_list0 f ok ht hce hsz helem hf
 have h1 : A = A' ∧ n = n' ∧ c = c' := by simpa [Value.cells] using h1
 obtain ⟨rfl, rfl, rfl⟩ := h1
 exact ⟨A, n, c, l, rfl, hr⟩
theorem flat_one {α : Type} (g : α → Value) (l : List α) : l.flatMap (fun x => [g x]) = l.map g := by
 induction l with
 | nil => rfl
 | cons x l ih => simp [ih]
theorem trod_u8 {e : TypeId} (he : P.underlying e = some (.int .u8)) {fuel : Nat} {cs : List Value} {y : DataW H × List MemPlace} (h : DataW.trod enc P w base spare held fuel e cs = some y) : ∃ x : UInt8, cs = [B x] ∧ True := by
 obtain ⟨z, h1, _, h2⟩ := DataW.trod_int he h
 have hz := bounds_u8 h2
 refine ⟨UInt8.ofNat z.toNat, ?_, trivial⟩
 rw [h1]
 simp only [B, b8]
 congr 2
 rw [UInt8.toNat_ofNat']; omega
theorem open_u8s {t e : TypeId} {v : Value} {d : DataW H} {ps : List MemPlace} (ht : P.underlying t = some (.slice e)) (he : P.underlying e = some (.int .u8)) (hce : P.cellsOf e = 1) (hval : Value.okWide P w r b0 t v) (h : DataW.Trod enc P w base spare held t v d ps) :
  ∃ A n c, ∃ bs : List UInt8, v = .slice A n c ∧ Sl w w.heap.size 1 A n (bs.map B) ∧ n ≤ c ∧ c ≤ maxLen := by
 obtain ⟨A, n, c, l, h1, h2, h3, h4, h5, _⟩ := open_list (fun x : UInt8 => [B x]) (fun _ => True) ht hce (by omega) (fun fuel cs y _ h => trod_u8 he h) hval h
 exact ⟨A, n, c, l, h1, by rw [← flat_one]; exact h5, h3, h4⟩
end
end Go.Proofs.YtphmefhnffoafaaGreatDoor

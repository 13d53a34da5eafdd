/- The contract of locks.Put1 where other blocks are to stay too. Printed by mkputq.py. -/
import Derived.Test.YtnnjjbkdjkjnpaaGreatDoorSpendBackRd35
set_option linter.unusedSimpArgs false
set_option linter.unusedVariables false
set_option maxRecDepth 100000
set_option maxHeartbeats 16000000
namespace Go.Proofs.YtnnjjbkdjkjnpaaGreatDoor
open Go.RowKit
theorem kputq_any (g b gp : Nat) (X L : LocksL) (s : Int) (K0 : Nat → Prop) (w : World) (hlow : ∀ j, j < gp → K0 j) (h : LocksAt w g b L s) (hr : RelK X L s) (hp : PenAt w K0 gp []) (hg : g < gp) (hb : b < gp) :
  Calls Tryz.prog 48 #[.pointer (some ⟨g, 0, none⟩), .pointer (some ⟨gp, 0, none⟩)] w fun e w' => e = .returned (.tuple #[]) ∧ PenAt w' K0 gp (bytesK X) ∧ Kept K0 w w' := by
 obtain ⟨n, hn⟩ : ∃ n, n = L.length := ⟨_, rfl⟩
 have hn256 : n ≤ 64 := by rw [hn]; exact hr.len
 have hXn : X.length = n := by rw [hr.lenX, hn]
 have HPT := kp (show bytesK X = numB n ++ X.flatMap putAtK by unfold bytesK; rw [hXn])
 have HR := kp hr; have HP := kp hp; have HC := kp h
 have HGB := kp (show K0 g ∧ K0 b from ⟨hlow g hg, hlow b hb⟩)
 have e0 : ∀ es : Array MapEntry, kvs es = encL L → es.size = n := fun es h5 => by rw [← kvs_length, h5]; simp [encL, hn]
 obtain ⟨es0, clock0, h3, h4, h5⟩ := h.map
 have e1 := e0 es0 h5
 have hl := fun ty => run_len_map w 97 ty b es0 clock0 Tryz.underlying97 h3
 simp only [e1] at hl
 have c1 : w.cell? ⟨g, 0, none⟩ = some (.map (some b)) := h.blk.at_ rfl
 have HNE := kp hn
 clear h hr hp h3 h4 h5 e0 e1 hn
 have q1 := conv_u64' (n := n) (by omega)
 obtain ⟨out, hout⟩ : ∃ q, q = bytesK X := ⟨_, rfl⟩
 rw [← hout] at HPT ⊢
 clear hout
 go_enter Tryz.func48, Tryz.ntmps48
 go_wp2_with fail
 refine (num_any gp n K0 [] _ HP.out (by simp) (by omega)).mono ?_
 rintro e w1 ⟨rfl, hp_, hk_⟩
 have HP1 := kp (show PenAt w1 K0 gp (numB n) from hp_)
 have HK1 := kp hk_
 have HC1 := kp (HC.out.keptK hk_ HGB.out.1 HGB.out.2)
 clear hp_ hk_ HP HC hl c1 q1
 have HALL := kp (kall_any g b L s w1 HC1.out (by rw [← HNE.out]; omega))
 go_wp2_with fail
 refine HALL.out.mono ?_
 rintro e w2 ⟨v, ks, rfl, hperm, ⟨ss, hss⟩, hrow, hb2⟩
 have hkx := HR.out.all hperm hss
 have hkl : ks.length = n := by have := congrArg List.length hkx; rw [List.length_map, List.length_map, hXn] at this; exact this
 obtain ⟨A, c, rfl⟩ := own_slice hrow
 rw [hkl] at hrow
 have HKX := kp hkx
 obtain ⟨z1, hz1⟩ : ∃ z, z = w1.heap.size := ⟨_, rfl⟩
 obtain ⟨z2, hz2⟩ : ∃ z, z = w2.heap.size := ⟨_, rfl⟩
 rw [← hz1] at hrow
 have HV := kp (show OwnP w2 z1 A n c ks from hrow)
 have HVB := kp (show ∀ q, A.map Addr.block = some q → KRq K0 z1 z2 q from fun q hq => .inr ⟨own_from hrow q hq, by rw [hz2]; exact own_lt hrow q hq⟩)
 have HGZ := kp (show gp < z1 by rw [hz1]; exact HP1.out.lt)
 have HP2 := kp (show PenAt w2 (KRq K0 z1 z2) gp (numB n) from HP1.out.more hb2 (fun j hj => by
  rcases hj with h | h
  ·exact .inl h
  ·exact .inr (by rw [← hz1, ← hz2]; exact h)))
 have HK2 := kp (show Kept K0 w w2 from HK1.out.trans (Kept.of_grow hb2 (fun j hj => HP1.out.ltK j hj)))
 have HKLT := kp (show ∀ j, K0 j → j < z1 from fun j hj => by rw [hz1]; exact HP1.out.ltK j hj)
 have HC2 := kp (HC1.out.call hb2)
 have HZ2 := kp (show z2 = w2.heap.size from hz2)
 have HZ12 := kp (show z1 ≤ z2 by rw [hz1, hz2]; exact hb2.size)
 rw [hkl]
 clear hperm hss hrow hb2 hkx hkl hz1 hz2 HP1 HK1 HC1 HALL
 have HQ0 := kp (show numB n = numB n ++ (X.take 0).flatMap putAtK by simp)
 have HKQ0 := kp (Kept.refl (KRq K0 z1 z2) w2)
 go_wp2_with fail
 go_loopw [18] (fun iv wr => ∃ k : Nat, k ≤ n ∧ iv = .int .i64 k ∧ Hid (∃ acc : List UInt8, PenAt wr (KRq K0 z1 z2) gp acc ∧ acc.length ≤ 9 + k * 114 ∧ acc = numB n ++ (X.take k).flatMap putAtK ∧ Kept (KRq K0 z1 z2) w2 wr)) (fun iv _ => n - (intOf iv).toNat)
 case atStart => exact ⟨0, by omega, rfl, kp ⟨numB n, HP2.out, by have := numB_le (n := n) (by omega); omega, HQ0.out, HKQ0.out⟩⟩
 case round =>
  obtain ⟨k, hk, rfl, hI⟩ := hrel
  clear HP2 HQ0 HKQ0
  obtain ⟨acc, hpn, hal, hac, hkq⟩ := hI.out
  have HP := kp hpn; have HAC := kp hac; have HKQ := kp hkq
  clear hI hpn hac hkq
  rename World => w_
  by_cases hlt : k < n
  ·obtain ⟨x, hx⟩ : ∃ x, ks[k]? = some x := ⟨_, List.getElem?_eq_getElem (by have := HV.out.len; omega)⟩
   obtain ⟨p, hp⟩ : ∃ p, X[k]? = some p := ⟨_, List.getElem?_eq_getElem (by omega)⟩
   have hxp : x.1 = p.1 := by
    have h1 := congrArg (fun l => l[k]?) HKX.out
    simp only [List.getElem?_map, hx, hp, Option.map_some] at h1
    exact Option.some.inj h1
   have hmem := List.mem_of_getElem? hp
   have hok := HR.out.okX p hmem
   have HSN := kp (fm_snocR putAtK hp)
   have hix := HR.out.ixX p hmem
   have hlk : lookL L p.1 = some p.2 := lookL_eq HR.out.ok.2 (HR.out.perm.mem_iff.1 hmem)
   obtain ⟨ix, hix1, hixl, hix2⟩ := natI (m := 15) hix.1 hix.2
   obtain ⟨am, ham, haml, ham2⟩ := natU hok.2.1.2.1 hok.2.1.2.2
   obtain ⟨tx, htx⟩ : ∃ q, q = p.1.1 := ⟨_, rfl⟩
   obtain ⟨fo, hfo⟩ : ∃ q, q = p.2.2 := ⟨_, rfl⟩
   obtain ⟨ow, how⟩ : ∃ q, q = p.2.1.1 := ⟨_, rfl⟩
   have HPI := kp (show putAtK p = tx ++ numB ix ++ fo ++ ow ++ numB am by unfold putAtK; rw [hix2, ham2, ← htx, ← hfo, ← how])
   have HDT := kp (show Dig (tx.map B) tx from ⟨rfl, by rw [htx]; exact hok.1.1⟩)
   have HDO := kp (show Dig (ow.map B) ow from ⟨rfl, by rw [how]; exact hok.2.1.1⟩)
   have HDF := kp (show Dig (fo.map B) fo from ⟨rfl, by rw [hfo]; exact hok.2.2⟩)
   have HPC := kp (ptV_cl hok.1); have HCC := kp (lockV_cl hok.2)
   have HE32 := kp (show (ptV p.1)[32]? = some (.int .i64 (ix : Int)) by rw [ptV_ix hok.1.1, hix1])
   have HC32 := kp (show (lockV p.2)[32]? = some (.int .u64 (am : Int)) by rw [lockV_amt hok.2, ham])
   have HET := kp (show ∀ j u, (tx.map B)[j]? = some u → (ptV p.1)[0 + j]? = some u from fun j u hu => by
    rw [Nat.zero_add]; unfold ptV; rw [← htx, List.getElem?_append_left (List.getElem?_eq_some_iff.1 hu).1]; exact hu)
   have HEO := kp (show ∀ j u, (ow.map B)[j]? = some u → (lockV p.2)[0 + j]? = some u from fun j u hu => lock_coin (by
    unfold coinV; rw [← how, List.getElem?_append_left (List.getElem?_eq_some_iff.1 hu).1]; exact hu))
   have HEF := kp (show ∀ j u, (fo.map B)[j]? = some u → (lockV p.2)[33 + j]? = some u from fun j u hu => lock_id hok.2 (by rw [← hfo]; exact hu))
   have HLK := kp (show ∀ w', LocksAt w' g b L s → (Instr.lookup 97 (.map (some b)) (.agg (ptV p.1).toArray) false).run Tryz.prog w' = .ok (.agg (lockV p.2).toArray) w' from fun w' h' => by
    obtain ⟨c', _, e2, h2⟩ := h'.look0 hok.1
    rw [hlk] at e2
    have : c' = p.2 := e2
    rw [this] at h2
    exact h2)
   obtain ⟨g0, cur, hA, _, _, _, _, hbk, _, _⟩ := HV.out.form (by omega)
   subst hA
   have HMC := kp (show ∀ j u, (ptV p.1)[j]? = some u → w_.cell? ⟨g0, k * 33 + j, none⟩ = some u from fun j u hu => by
    have h1 := HV.out.at_ hx j u (by unfold encPt; rw [hxp]; exact hu)
    rw [hbk.cell] at h1
    exact (HKQ.out.blk hbk (HVB.out g0 rfl)).at_ h1)
   obtain ⟨es, hes⟩ : ∃ q, q = ptV p.1 := ⟨_, rfl⟩
   obtain ⟨cs, hcs⟩ : ∃ q, q = lockV p.2 := ⟨_, rfl⟩
   rw [← hes] at HPC HE32 HET HLK HMC
   rw [← hcs] at HCC HC32 HEO HEF HLK
   obtain ⟨tb, htb⟩ : ∃ q, q = tx.map B := ⟨_, rfl⟩
   rw [← htb] at HDT HET
   obtain ⟨ob, hob⟩ : ∃ q, q = ow.map B := ⟨_, rfl⟩
   rw [← hob] at HDO HEO
   obtain ⟨fb, hfb⟩ : ∃ q, q = fo.map B := ⟨_, rfl⟩
   rw [← hfb] at HDF HEF
   clear hx hp hxp hmem hok hix hlk hix1 hix2 ham ham2 htx how hfo hes hcs htb hob hfb hbk
   have hlix := numB_le (n := ix) (by omega); have hlam := numB_le (n := am) (by omega)
   have htl : tx.length = 32 := HDT.out.2
   have hol : ow.length = 32 := HDO.out.2
   have hfl : fo.length = 32 := HDF.out.2
   have HCW := kp (show LocksAt w_ g b L s from HC2.out.keptK HKQ.out (.inl (hlow g hg)) (.inl (hlow b hb)))
   have hwz : z2 ≤ w_.heap.size := by rw [HZ2.out]; exact HKQ.out.size
   have HWZ := kp hwz
   obtain ⟨wq, hwq⟩ : ∃ q, q = w_ := ⟨_, rfl⟩
   have HB := kp (show Below wq.heap.size wq w_ by rw [hwq]; exact Below.refl _ _)
   rw [← hwq] at HP HKQ HWZ
   clear hwq hwz
   go_wp2_with (first | (with_reducible refine wlm 21 row_point HMC.out HPC.out.len ?_) | (with_reducible refine wpl_alloc (o := ⟨some 5, _, _, _, _, _⟩) rfl rfl zero_point ?_))
   intro w1_ hb1_ hbw1_ hsz1_
   have HB1_ := kp (at_mk hb1_ len_point)
   have HBW1_ := kp hbw1_
   have HZ1_ := kp hsz1_
   clear hb1_ hbw1_ hsz1_
   go_wp2_with (with_reducible refine wsb row_point HB1_.out.blk HB1_.out.len HPC.out.len HPC.out.one ?_)
   intro w2_ hb2_ hg2_ hsz2_
   have HG_ := kp HB.out.size
   have hb_ := var_grow HBW1_.out HZ1_.out hg2_
   have HX_ := kp (at_mk hb2_ HPC.out.len)
   clear hb2_ hg2_ hsz2_ HB1_ HBW1_ HZ1_
   replace HB := kp (HB.out.grow' hb_)
   replace HCW := kp (HCW.out.grow hb_)
   generalize hg_ : w_.heap.size = g5 at HX_ HG_ ⊢
   clear hg_
   have HE := HX_
   clear hb_ HX_
   clear w1_
   try clear w_
   rename World => w_
   have HE_g := HG_
   clear HG_
   clear HMC
   have HEG := kp (show wq.heap.size ≤ g5 ∧ g5 < w_.heap.size from ⟨HE_g.out, HE.out.lt⟩)
   obtain ⟨g6, hg6⟩ : ∃ q, q = w_.heap.size := ⟨_, rfl⟩
   go_wp2_with fail
   repeat' (first | (with_reducible refine wp_phase (id := 4) (newC w_ 118 (lockV noLock) cs) [6, 7] [(0,2),(0,2),(0,2),(0,2),(0,2),(0,2),(0,0),(1,1)] (by kernel_rfl) (by kernel_rfl) ?_ ?_) | go_values | go_skip | go_guarded | go_step | go_upon | go_back)
   ·exact newC.start
   have HF := kp (show ∀ k w', newC w_ 118 (lockV noLock) cs k w' → w'.cell? ⟨g, 0, none⟩ = some (.map (some b)) from fun k w' h => (HCW.out.call (newC.low k w' h)).blk.at_ rfl)
   have HL := kp (show ∀ k w', newC w_ 118 (lockV noLock) cs k w' → (Instr.lookup 97 (.map (some b)) (.agg es.toArray) false).run Tryz.prog w' = .ok (.agg cs.toArray) w' from fun k w' h => HLK.out w' (HCW.out.call (newC.low k w' h)))
   have HX1 := kp (show ∀ k w', newC w_ 118 (lockV noLock) cs k w' → Blk w' g5 69 es from fun k w' h => HE.out.blk.call (newC.low k w' h))
   refine ph_value rfl (by first | rfl | go_simp) (fun k_ _ _ w_ hC_ => by first | (go_simp; rfl) | (go_simp; done) | rfl) (fun K hK => ?_)
   go_simp
   refine hK _ ?_
   clear hK K
   refine ph_value rfl (by first | rfl | go_simp) (fun k_ _ _ w_ hC_ => by first | (go_simp; rfl) | (go_simp; done) | rfl) (fun K hK => ?_)
   go_simp
   refine hK _ ?_
   clear hK K
   refine ph_value rfl (by first | rfl | go_simp) (fun k_ _ _ w_ hC_ => by first | (go_simp; rfl) | (go_simp; done) | rfl) (fun K hK => ?_)
   go_simp
   refine hK _ ?_
   clear hK K
   refine ph_value rfl (by first | rfl | go_simp) (fun k_ _ _ w_ hC_ => by have c1 := HF.out _ _ hC_; first | (go_simp; rfl) | (go_simp; done) | rfl) (fun K hK => ?_)
   go_simp
   refine hK _ ?_
   clear hK K
   refine ph_load rfl rfl rfl row_point (fun k _ _ w h => HX1.out k w h) rfl HPC.out.len ?_
   (intro K hK; go_simp; refine hK _ ?_; clear hK K)
   refine ph_value rfl (by first | rfl | go_simp) (fun k_ _ _ w_ hC_ => by have c1 := HL.out _ _ hC_; first | (go_simp; rfl) | (go_simp; done) | rfl) (fun K hK => ?_)
   go_simp
   refine hK _ ?_
   clear hK K
   refine ph_alloc 0 rfl rfl rfl rfl rfl zero_lock newC.lay ?_
   (intro K hK; go_simp; refine hK _ ?_; clear hK K)
   refine ph_store 1 rfl rfl rfl rfl rfl row_lock rfl rfl HCC.out.len HCC.out.one (newC.put (lockV_length noLock_ok)) ?_
   (intro K hK; go_simp; refine hK _ ?_; clear hK K)
   refine ph_nil ?_
   intro w3 ⟨hl3, hs3, hx3⟩
   rw [← hg6] at hs3 hx3 ⊢
   replace HE := kp (HE.out.grow hl3)
   have HX := kp (show At w3 g6 118 65 cs from at_mk hx3 HCC.out.len)
   replace HB := kp (HB.out.grow' hl3)
   obtain ⟨z3, hz3⟩ : ∃ q, q = wq.heap.size := ⟨_, rfl⟩
   obtain ⟨z4, hz4⟩ : ∃ q, q = w3.heap.size := ⟨_, rfl⟩
   have HKE := kp (show KSq K0 z1 z2 z3 z4 g5 ∧ KSq K0 z1 z2 z3 z4 g6 by
    have h1 := HEG.out
    refine ⟨.inr ⟨by rw [hz3]; exact h1.1, by rw [hz4]; omega⟩, .inr ⟨by rw [hz3, hg6]; omega, by rw [hz4]; omega⟩⟩)
   have HPN := kp (show PenAt w3 (KSq K0 z1 z2 z3 z4) gp acc from HP.out.more HB.out (fun j hj => by
    rcases hj with h | h
    ·exact .inl h
    ·exact .inr (by rw [← hz3, ← hz4]; exact h)))
   have HKN := kp (show Kept (KRq K0 z1 z2) w2 w3 from HKQ.out.trans (Kept.of_grow HB.out (fun j hj => by
    have h1 := HWZ.out; have h2 := HGZ.out; have h3 := HZ12.out
    rcases hj with h | h
    ·have := HKLT.out j h; omega
    ·omega)))
   clear hl3 hs3 hx3 HF HL HX1 HCW HB HP HKQ HEG hg6 hz3 hz4 HWZ HE_g HLK
   try clear w_
   try clear wq
   rename World => w_
   have HMT := kp (show ∀ j u, tb[j]? = some u → w_.cell? ⟨g5, 0 + j, none⟩ = some u from fun j u hu => HE.out.blk.at_ (HET.out j u hu))
   go_wp2_with (with_reducible refine wlm 30 row_idk HMT.out HDT.out.len ?_)
   clear HMT
   go_wp2_with fail
   refine (pid_any gp (KSq K0 z1 z2 z3 z4) acc HDT.out _ HPN.out (by omega)).mono ?_
   rintro e w2_ ⟨rfl, hp_, hk_⟩
   replace HPN := kp hp_
   replace HKN := kp (HKN.out.trans (hk_.mono (fun j hj => .inl hj)))
   replace HE := kp (at_mk (hk_.blk HE.out.blk HKE.out.1) HE.out.len)
   replace HX := kp (at_mk (hk_.blk HX.out.blk HKE.out.2) HX.out.len)
   clear hp_ hk_
   try clear w_
   rename World => w_
   have c1 := HE.out.blk.at_ HE32.out
   have q1 := conv_u64' (n := ix) (by omega)
   go_wp2_with fail
   refine (num_any gp ix (KSq K0 z1 z2 z3 z4) (acc ++ tx) _ HPN.out (by clear q1; rw [List.length_append]; omega) (by omega)).mono ?_
   rintro e w2_ ⟨rfl, hp_, hk_⟩
   replace HPN := kp hp_
   replace HKN := kp (HKN.out.trans (hk_.mono (fun j hj => .inl hj)))
   replace HE := kp (at_mk (hk_.blk HE.out.blk HKE.out.1) HE.out.len)
   replace HX := kp (at_mk (hk_.blk HX.out.blk HKE.out.2) HX.out.len)
   clear hp_ hk_
   try clear w_
   rename World => w_
   clear c1 q1
   have HMT := kp (show ∀ j u, fb[j]? = some u → w_.cell? ⟨g6, 33 + j, none⟩ = some u from fun j u hu => HX.out.blk.at_ (HEF.out j u hu))
   go_wp2_with (with_reducible refine wlm 39 row_idk HMT.out HDF.out.len ?_)
   clear HMT
   go_wp2_with fail
   refine (pid_any gp (KSq K0 z1 z2 z3 z4) (acc ++ tx ++ numB ix) HDF.out _ HPN.out (by simp only [List.length_append]; omega)).mono ?_
   rintro e w2_ ⟨rfl, hp_, hk_⟩
   replace HPN := kp hp_
   replace HKN := kp (HKN.out.trans (hk_.mono (fun j hj => .inl hj)))
   replace HE := kp (at_mk (hk_.blk HE.out.blk HKE.out.1) HE.out.len)
   replace HX := kp (at_mk (hk_.blk HX.out.blk HKE.out.2) HX.out.len)
   clear hp_ hk_
   try clear w_
   rename World => w_
   have HMT := kp (show ∀ j u, ob[j]? = some u → w_.cell? ⟨g6, 0 + j, none⟩ = some u from fun j u hu => HX.out.blk.at_ (HEO.out j u hu))
   go_wp2_with (with_reducible refine wlm 44 row_idk HMT.out HDO.out.len ?_)
   clear HMT
   go_wp2_with fail
   refine (pid_any gp (KSq K0 z1 z2 z3 z4) (acc ++ tx ++ numB ix ++ fo) HDO.out _ HPN.out (by simp only [List.length_append]; omega)).mono ?_
   rintro e w2_ ⟨rfl, hp_, hk_⟩
   replace HPN := kp hp_
   replace HKN := kp (HKN.out.trans (hk_.mono (fun j hj => .inl hj)))
   replace HE := kp (at_mk (hk_.blk HE.out.blk HKE.out.1) HE.out.len)
   replace HX := kp (at_mk (hk_.blk HX.out.blk HKE.out.2) HX.out.len)
   clear hp_ hk_
   try clear w_
   rename World => w_
   have c1 := HX.out.blk.at_ HC32.out
   go_wp2_with fail
   refine (num_any gp am (KSq K0 z1 z2 z3 z4) (acc ++ tx ++ numB ix ++ fo ++ ow) _ HPN.out (by simp only [List.length_append]; omega) (by omega)).mono ?_
   rintro e w2_ ⟨rfl, hp_, hk_⟩
   replace HPN := kp hp_
   replace HKN := kp (HKN.out.trans (hk_.mono (fun j hj => .inl hj)))
   replace HE := kp (at_mk (hk_.blk HE.out.blk HKE.out.1) HE.out.len)
   replace HX := kp (at_mk (hk_.blk HX.out.blk HKE.out.2) HX.out.len)
   clear hp_ hk_
   try clear w_
   rename World => w_
   clear c1
   have HREL := kp (show ∃ acc : List UInt8, PenAt w_ (KRq K0 z1 z2) gp acc ∧ acc.length ≤ 9 + (k + 1) * 114 ∧ acc = numB n ++ (X.take (k + 1)).flatMap putAtK ∧ Kept (KRq K0 z1 z2) w2 w_ from ⟨acc ++ tx ++ numB ix ++ fo ++ ow ++ numB am, HPN.out.less (fun j hj => .inl hj), by simp only [List.length_append]; omega, by rw [HSN.out, HPI.out, HAC.out]; simp only [List.append_assoc], HKN.out⟩)
   clear HPN HKN HE HX hlix hlam htl hol hfl
   have v1 : IntKind.i64.wrap ((k : Int) + 1) = (k : Int) + 1 := IntWalk.i64_in _ (by omega)
   go_wp2_with fail
   go_roundw
   all_goals clear v1
   case rel => exact ⟨k + 1, by omega, by go_num, HREL⟩
   case measure => simp [intOf]; omega
  ·obtain rfl : k = n := by omega
   have HAE := kp (show acc = out by have h := HAC.out; rw [List.take_of_length_le (by omega)] at h; rw [HPT.out]; exact h)
   have HEND := kp (show PenAt w_ K0 gp out ∧ Kept K0 w w_ from ⟨by rw [← HAE.out]; exact HP.out.less (fun j hj => .inl hj), HK2.out.trans (HKQ.out.mono (fun j hj => .inl hj))⟩)
   go_wp2_with fail
   refine bodyPost_end (results_none rfl _ _ _) rfl ?_
   exact ⟨rfl, HEND.out⟩
theorem bytesC_le {X : CoinsL} (hn : X.length ≤ 256) (ho : ∀ e ∈ X, AtOKC e) (hx : IxOK X) : (bytesC X).length ≤ 30000 := by
 have h1 := numB_le (n := X.length) (by omega)
 have h2 : ∀ Y : CoinsL, (∀ e ∈ Y, (putAt e).length ≤ 82) → (Y.flatMap putAt).length ≤ Y.length * 82 := by
  intro Y
  induction Y with
  | nil => intro _; simp
  | cons e r ih =>
   intro h
   have h3 := ih (fun x hx => h x (List.mem_cons_of_mem _ hx))
   have h4 := h e (List.mem_cons_self ..)
   rw [List.flatMap_cons, List.length_append, List.length_cons]; omega
 have h3 := h2 X (fun e he => by
  have h4 := ho e he; have h5 := hx e he
  have h6 := numB_le (n := e.1.2.toNat) (by omega)
  have h7 := numB_le (n := e.2.2.toNat) (by have := h4.2.2; omega)
  unfold putAt
  simp only [List.length_append, h4.1.1, h4.2.1]; omega)
 unfold bytesC
 rw [List.length_append]; omega
open Go.RowKit Go.Shelf
theorem PenAt.keptq {w w1 : World} {K K1 : Nat → Prop} {g gq : Nat} {xs : List UInt8} (h : PenAt w K g xs) (k : Kept K1 w w1) (hall : ∀ j, j < w.heap.size → j ≠ gq → K1 j) (hq : K gq) (hg : g ≠ gq) : PenAt w1 K g xs := by
 obtain ⟨A, c, h1, h2, h3, h4⟩ := h
 refine ⟨A, c, k.blk h1 (hall g h1.lt hg), ?_, fun j hj => ⟨Nat.lt_of_lt_of_le (h3 j hj).1 k.size, (h3 j hj).2⟩, h4⟩
 refine ⟨h2.1, ?_⟩
 rcases h2.2 with hn | ⟨b, cap, cur, hv, hb, hh, r⟩
 ·exact .inl hn
 ·refine .inr ⟨b, cap, cur, hv, hb, (k.block b (hall b (Array.getElem?_eq_some_iff.1 hh).1 (fun e => ?_))).trans hh, r⟩
  injection hv with hA
  exact (h3 gq hq).2.2 (by rw [hA, e]; rfl)
theorem is22_any {X L : CoinsL} {Y K : LocksL} {s s2 : Int} {g b g2 b2 : Nat} {A : Option Addr} {n c : Nat} {A2 : Option Addr} {n2 c2 : Nat} (w : World) (hc : CoinsAt w g b L s) (hrc : RelC X L s) (hk : LocksAt w g2 b2 K s2) (hrk : RelK Y K s2) (hx : RowC w A n X) (hy : RowK w A2 n2 Y) :
  Calls Tryz.prog 21 #[.pointer (some ⟨g, 0, none⟩), .pointer (some ⟨g2, 0, none⟩), .agg (stV A n c A2 n2 c2).toArray] w fun e w' => e = .returned (.bool true) ∧ Grow w w' := by
 have HC := kp hc; have HK := kp hk; have HX := kp hx; have HY := kp hy
 have HLC := kp (bytesC_le (by rw [hrc.lenX]; exact hrc.len) hrc.okX hrc.ixX)
 have HLK := kp (bytesK_le (by rw [hrk.lenX]; exact hrk.len) hrk.okX hrk.ixX)
 have hn256 : n ≤ 256 := by rw [← hx.2.2, hrc.lenX]; exact hrc.len
 have hn64 : n2 ≤ 64 := by rw [← hy.2.2, hrk.lenX]; exact hrk.len
 have HTR := kp (fun w' (h' : RowC w' A n X) => rbytes19_any (c := c) w' h' hn256 hrc.ixX)
 have HTK := kp (fun w' (h' : RowK w' A2 n2 Y) => rbytes21_any (c := c2) w' h' hn64 hrk.ixX)
 have HPC := kp (fun gp K0 w' hl (h' : CoinsAt w' g b L s) hp (h1 : g < gp) (h2 : b < gp) => cputq_any g b gp X L s K0 w' hl h' hrc hp h1 h2)
 have HPK := kp (fun gp K0 w' hl (h' : LocksAt w' g2 b2 K s2) hp (h1 : g2 < gp) (h2 : b2 < gp) => kputq_any g2 b2 gp Y K s2 K0 w' hl h' hrk hp h1 h2)
 have HSC := kp (stV_cl (A := A) (n := n) (c := c) (A2 := A2) (n2 := n2) (c2 := c2))
 have HT0 := kp (show (stV A n c A2 n2 c2)[0]? = some (.slice A n c) ∧ (stV A n c A2 n2 c2)[1]? = some (.slice A2 n2 c2) from ⟨rfl, rfl⟩)
 obtain ⟨sv, hsv⟩ : ∃ q, q = stV A n c A2 n2 c2 := ⟨_, rfl⟩
 rw [← hsv] at HSC HT0 ⊢
 obtain ⟨oc, hoc⟩ : ∃ q, q = bytesC X := ⟨_, rfl⟩
 obtain ⟨ok, hok⟩ : ∃ q, q = bytesK Y := ⟨_, rfl⟩
 rw [← hoc] at HLC HTR HPC
 rw [← hok] at HLK HTK HPK
 obtain ⟨w_, hw⟩ : ∃ x, x = w := ⟨_, rfl⟩
 have HB := kp (show Below w.heap.size w w_ by rw [hw]; exact Below.refl _ _)
 suffices H : Calls Tryz.prog 21 #[.pointer (some ⟨g, 0, none⟩), .pointer (some ⟨g2, 0, none⟩), .agg sv.toArray] w_ (fun e w' => e = .returned (.bool true) ∧ Grow w w') by rw [hw] at H; exact H
 clear hw hc hrc hk hrk hx hy hsv hoc hok
 go_enter Tryz.func21, Tryz.ntmps21
 go_wp2_with (first | (with_reducible refine wpl_box (o := ⟨some 5, _, _, _, _, _⟩) rfl rfl rfl ?_))
 intro w2_ hb2_ hb_ hsz2_
 have HX_ := kp (at_mk hb2_ HSC.out.len)
 clear hb2_ hsz2_
 have HG_ := kp HB.out.size
 replace HB := kp (HB.out.grow' hb_)
 generalize hg_ : w_.heap.size = g5 at HX_ HG_ ⊢
 clear hg_
 have HS_g := HG_
 clear HG_
 have HS := HX_
 clear hb_ HX_
 try clear w_
 rename World => w_
 go_wp2_with (first | (with_reducible refine wpl_alloc (o := ⟨some 7, _, _, _, _, _⟩) rfl rfl zero_penC ?_))
 intro w4 hb4 hbw4 hsz4
 obtain ⟨gp, hgp⟩ : ∃ q, q = w_.heap.size := ⟨_, rfl⟩
 have HLT := kp (show g5 < gp ∧ g < gp ∧ b < gp ∧ g2 < gp ∧ b2 < gp by
  rw [hgp]
  have h1 := (HC.out.call HB.out); have h2 := (HK.out.call HB.out)
  exact ⟨HS.out.lt, h1.ltg, h1.ltb, h2.ltg, h2.ltb⟩)
 have HWG := kp (show w.heap.size ≤ gp by rw [hgp]; exact HB.out.size)
 have HB0 := HB
 have HW0 := kp (show Below gp w_ w4 by rw [hgp]; exact hbw4)
 have HBg := kp (show gp = w_.heap.size from hgp)
 have HP0 := kp (show Blk w4 gp 106 [.slice none 0 0] by rw [hgp]; exact hb4)
 have HZ4 := kp (show w4.heap.size = gp + 1 by rw [hgp]; exact hsz4)
 rw [← hgp]
 clear hb4 hbw4 hsz4 hgp
 go_wp2_with (first | (with_reducible refine wpl_alloc (o := ⟨some 8, _, _, _, _, _⟩) rfl rfl zero_penC ?_))
 intro w5 hb5 hbw5 hsz5
 rw [HZ4.out] at hb5 hbw5 hsz5 ⊢
 have HQ0 := kp (show Blk w5 (gp + 1) 106 [.slice none 0 0] from hb5)
 have HPB := kp (show Blk w5 gp 106 [.slice none 0 0] from HP0.out.below hbw5 (by omega))
 have HW5 := kp (show Below gp w_ w5 from HW0.out.trans (hbw5.mono (by omega)))
 have HZ5 := kp (show w5.heap.size = gp + 2 from hsz5)
 clear hb5 hbw5 hsz5 HP0 HW0 HZ4
 obtain ⟨K0, hK0⟩ : ∃ q : Nat → Prop, q = fun j => j < gp + 2 ∧ j ≠ gp := ⟨_, rfl⟩
 have HK0 := kp (show ∀ j, K0 j ↔ j < gp + 2 ∧ j ≠ gp from fun j => by rw [hK0])
 have HP := kp (show PenAt w5 K0 gp [] from PenAt.new HPB.out (fun k hk => by have := (HK0.out k).1 hk; exact ⟨by rw [HZ5.out]; exact this.1, this.2⟩))
 have HC5 := kp (show CoinsAt w5 g b L s from (HC.out.call HB0.out).below HW5.out HLT.out.2.1 HLT.out.2.2.1)
 have HK5 := kp (show LocksAt w5 g2 b2 K s2 from (HK.out.call HB0.out).below HW5.out HLT.out.2.2.2.1 HLT.out.2.2.2.2)
 have HX5 := kp (show Sl w_ gp 66 A n (X.flatMap encAtC) by rw [HBg.out]; exact (HX.out.grow HB0.out).1)
 have HY5 := kp (show Sl w_ gp 98 A2 n2 (Y.flatMap encAtK) by rw [HBg.out]; exact (HY.out.grow HB0.out).1)
 have HXR := kp HX.out.2; have HYR := kp HY.out.2
 have HS5 := kp (show At w5 g5 37 2 sv from at_mk (HS.out.blk.below HW5.out HLT.out.1) HS.out.len)
 clear hK0 HC HK HX HY HS HPB
 have HPC1 := kp (HPC.out gp K0 w5 (fun j hj => (HK0.out j).2 (by omega)) HC5.out HP.out HLT.out.2.1 HLT.out.2.2.1)
 go_wp2_with fail
 refine HPC1.out.mono ?_
 rintro e w6 ⟨rfl, hp_, hk_⟩
 have HP6 := kp hp_
 have HKP := kp hk_
 have HW6 := kp (show Below gp w_ w6 from HW5.out.trans (hk_.below (fun j hj => (HK0.out j).2 (by omega))))
 have HQ6 := kp (show Blk w6 (gp + 1) 106 [.slice none 0 0] from hk_.blk HQ0.out ((HK0.out _).2 (by omega)))
 have HK6 := kp (HK5.out.keptK hk_ ((HK0.out _).2 (by have := HLT.out; omega)) ((HK0.out _).2 (by have := HLT.out; omega)))
 have HS6 := kp (show At w6 g5 37 2 sv from at_mk (hk_.blk HS5.out.blk ((HK0.out _).2 (by have := HLT.out; omega))) HS5.out.len)
 have HZ6 := kp (show gp + 2 ≤ w6.heap.size by rw [← HZ5.out]; exact hk_.size)
 clear hp_ hk_ HP HC5 HK5 HS5 HQ0 HPC1 HPC HKP
 obtain ⟨K1, hK1⟩ : ∃ q : Nat → Prop, q = fun j => j < w6.heap.size ∧ j ≠ gp + 1 := ⟨_, rfl⟩
 have HK1 := kp (show ∀ j, K1 j ↔ j < w6.heap.size ∧ j ≠ gp + 1 from fun j => by rw [hK1])
 have HQ := kp (show PenAt w6 K1 (gp + 1) [] from PenAt.new HQ6.out (fun k hk => (HK1.out k).1 hk))
 clear hK1
 have HPK1 := kp (HPK.out (gp + 1) K1 w6 (fun j hj => (HK1.out j).2 (by have := HZ6.out; omega)) HK6.out HQ.out (by have := HLT.out; omega) (by have := HLT.out; omega))
 go_wp2_with fail
 refine HPK1.out.mono ?_
 rintro e w7 ⟨rfl, hp_, hk_⟩
 have HQ7 := kp hp_
 have HP7 := kp (HP6.out.keptq hk_ (fun j h1 h2 => (HK1.out j).2 ⟨h1, h2⟩) ((HK0.out _).2 (by omega)) (by omega))
 have HW7 := kp (show Below gp w_ w7 from HW6.out.trans (hk_.below (fun j hj => (HK1.out j).2 (by have := HZ6.out; omega))))
 have HS7 := kp (show At w7 g5 37 2 sv from at_mk (hk_.blk HS6.out.blk ((HK1.out _).2 (by have := HLT.out; have := HZ6.out; omega))) HS6.out.len)
 have HSZ := kp (show gp ≤ w7.heap.size by have := HZ6.out; have := hk_.size; omega)
 have HX7 := kp (show RowC w7 A n X from ⟨(HX5.out.below HW7.out).more HSZ.out, HXR.out⟩)
 have HY7 := kp (show RowK w7 A2 n2 Y from ⟨(HY5.out.below HW7.out).more HSZ.out, HYR.out⟩)
 have HB7 := kp (show Below w.heap.size w w7 from HB0.out.trans (HW7.out.mono HWG.out))
 clear hp_ hk_ HP6 HQ6 HK6 HS6 HW6 HQ HPK1 HPK HX5 HY5 HXR HYR HW5 HW7 HB0 HB
 have HB := HB7; have HS := HS7; have HX := HX7; have HY := HY7; have HP := HP7; have HQ := HQ7
 clear HB7 HS7 HX7 HY7 HP7 HQ7
 try clear w6
 try clear w5
 try clear w4
 try clear w_
 rename World => w_
 go_wp2_with fail
 try go_wp2_with fail
 repeat' (first | (with_reducible refine wp_plan (id := 4) Grow [4,0,1,3,3,0,4,0,1,3,3,0,0] (.get 1 (.get 2 (.act 0 (.act 3 (.act 4 (.get 5 (.get 7 (.get 8 (.act 6 (.act 9 (.act 10 (.get 11 (.get 12 .done))))))))))))) (by kernel_rfl) (by kernel_rfl) Grow.refl Grow.trans ?_) | go_values | go_skip | go_guarded | go_step | go_upon | go_back)
 intro w_ hd_
 have hb_ := hd_.grow
 replace HB := kp (HB.out.grow' hb_)
 replace HS := kp (HS.out.grow hb_)
 replace HX := kp (HX.out.grow hb_)
 replace HY := kp (HY.out.grow hb_)
 replace HP := kp (HP.out.grow hb_)
 replace HQ := kp (HQ.out.grow hb_)
 clear hb_ hd_
 have c0 := HS.out.blk.at_ HT0.out.1
 have c1 := HS.out.blk.at_ HT0.out.2
 repeat (first | (refine pl_calm rfl rfl (by first | exact wanted_none rfl | (go_simp; done) | rfl) (fun w_ => by first | (go_simp; rfl) | (go_simp; done) | rfl) (fun K hK => ?_); go_simp; refine hK _ _ ?_; clear hK K) | (refine pl_skip rfl (by first | (go_simp; done) | rfl) (fun K hK => ?_); go_simp; refine hK _ _ ?_; clear hK K) | (refine pl_skipa rfl (by first | (go_simp; done) | rfl) (fun K hK => ?_); go_simp; refine hK _ _ ?_; clear hK K) | (refine pl_load rfl rfl (by first | exact wanted_none rfl | (go_simp; done) | rfl) rfl (by first | rfl | (go_simp; rfl)) (by kernel_rfl) (by first | exact c0) (fun K hK => ?_); go_simp; refine hK _ _ ?_; clear hK K) | (refine pl_loadnow rfl rfl (by first | exact wanted_none rfl | (go_simp; done) | rfl) rfl (by first | rfl | (go_simp; rfl)) (by kernel_rfl) (by first | exact c0) (fun K hK => ?_); go_simp; refine hK _ _ ?_; clear hK K))
 refine pl_act rfl (by first | exact wanted_none rfl | (go_simp; done) | rfl) (fun K hK => ?_)
 go_wp2_with fail
 refine (pbytes_any gp K0 oc w_ HP.out (by have := HLC.out; omega)).mono ?_
 rintro e w2_ ⟨A6, c6, rfl, ho6, hc6, hb_⟩
 have HO := kp (Sl.of_own ho6)
 go_wp2_with fail
 refine hK _ _ (fun _ => hb_) ?_
 clear hK K ho6 hc6 c0 c1 HP
 replace HS := kp (HS.out.grow hb_); replace HX := kp (HX.out.grow hb_); replace HY := kp (HY.out.grow hb_); replace HQ := kp (HQ.out.grow hb_); replace HB := kp (HB.out.grow' hb_)
 clear hb_
 try clear w_
 rename World => w_
 repeat ((first | refine plc (fun K hK => ?_) | refine pl_skip rfl (by first | (go_simp; done) | rfl) (fun K hK => ?_) | refine pl_skipa rfl (by first | (go_simp; done) | rfl) (fun K hK => ?_)); go_simp; refine hK _ _ ?_; clear hK K)
 refine pl_act rfl (by first | exact wanted_none rfl | (go_simp; done) | rfl) (fun K hK => ?_)
 go_wp2_with fail
 refine (HTR.out w_ HX.out).mono ?_
 rintro e w2_ ⟨A7, c7, rfl, hs7, hc7, hl7, hb_⟩
 have HR := kp hs7
 go_wp2_with fail
 refine hK _ _ (fun h => by first | exact hb_ | cases h) ?_
 clear hK K hs7 hc7 hl7 HX
 replace HS := kp (HS.out.grow hb_); replace HY := kp (HY.out.grow hb_); replace HQ := kp (HQ.out.grow hb_); replace HO := kp (Sl.grow HO.out hb_); replace HB := kp (HB.out.grow' hb_)
 clear hb_
 try clear w_
 rename World => w_
 repeat ((first | refine plc (fun K hK => ?_) | refine pl_skip rfl (by first | (go_simp; done) | rfl) (fun K hK => ?_) | refine pl_skipa rfl (by first | (go_simp; done) | rfl) (fun K hK => ?_)); go_simp; refine hK _ _ ?_; clear hK K)
 refine pl_act rfl (by first | exact wanted_none rfl | (go_simp; done) | rfl) (fun K hK => ?_)
 go_wp2_with fail
 refine (bytesq_any (res := true) (by simp) w_ HO.out HR.out (by have := HLC.out; omega)).mono ?_
 rintro e w2_ ⟨rfl, hb_⟩
 go_wp2_with fail
 refine hK _ _ (fun h => by first | exact hb_ | cases h) ?_
 clear hK K HO HR
 replace HS := kp (HS.out.grow hb_); replace HY := kp (HY.out.grow hb_); replace HQ := kp (HQ.out.grow hb_); replace HB := kp (HB.out.grow' hb_)
 clear hb_
 try clear w_
 rename World => w_
 have c1 := HS.out.blk.at_ HT0.out.2
 repeat (first | (refine pl_calm rfl rfl (by first | exact wanted_none rfl | (go_simp; done) | rfl) (fun w_ => by first | (go_simp; rfl) | (go_simp; done) | rfl) (fun K hK => ?_); go_simp; refine hK _ _ ?_; clear hK K) | (refine pl_skip rfl (by first | (go_simp; done) | rfl) (fun K hK => ?_); go_simp; refine hK _ _ ?_; clear hK K) | (refine pl_skipa rfl (by first | (go_simp; done) | rfl) (fun K hK => ?_); go_simp; refine hK _ _ ?_; clear hK K) | (refine pl_load rfl rfl (by first | exact wanted_none rfl | (go_simp; done) | rfl) rfl (by first | rfl | (go_simp; rfl)) (by kernel_rfl) (by first | exact c1) (fun K hK => ?_); go_simp; refine hK _ _ ?_; clear hK K) | (refine pl_loadnow rfl rfl (by first | exact wanted_none rfl | (go_simp; done) | rfl) rfl (by first | rfl | (go_simp; rfl)) (by kernel_rfl) (by first | exact c1) (fun K hK => ?_); go_simp; refine hK _ _ ?_; clear hK K))
 refine pl_act rfl (by first | exact wanted_none rfl | (go_simp; done) | rfl) (fun K hK => ?_)
 go_wp2_with fail
 refine (pbytes_any (gp + 1) K1 ok w_ HQ.out (by have := HLK.out; omega)).mono ?_
 rintro e w2_ ⟨A6, c6, rfl, ho6, hc6, hb_⟩
 have HO := kp (Sl.of_own ho6)
 go_wp2_with fail
 refine hK _ _ (fun _ => hb_) ?_
 clear hK K ho6 hc6 c1 HQ HS
 replace HY := kp (HY.out.grow hb_); replace HB := kp (HB.out.grow' hb_)
 clear hb_
 try clear w_
 rename World => w_
 repeat ((first | refine plc (fun K hK => ?_) | refine pl_skip rfl (by first | (go_simp; done) | rfl) (fun K hK => ?_) | refine pl_skipa rfl (by first | (go_simp; done) | rfl) (fun K hK => ?_)); go_simp; refine hK _ _ ?_; clear hK K)
 refine pl_act rfl (by first | exact wanted_none rfl | (go_simp; done) | rfl) (fun K hK => ?_)
 go_wp2_with fail
 refine (HTK.out w_ HY.out).mono ?_
 rintro e w2_ ⟨A7, c7, rfl, hs7, hc7, hl7, hb_⟩
 have HR := kp hs7
 go_wp2_with fail
 refine hK _ _ (fun h => by first | exact hb_ | cases h) ?_
 clear hK K hs7 hc7 hl7 HY
 replace HO := kp (Sl.grow HO.out hb_); replace HB := kp (HB.out.grow' hb_)
 clear hb_
 try clear w_
 rename World => w_
 repeat ((first | refine plc (fun K hK => ?_) | refine pl_skip rfl (by first | (go_simp; done) | rfl) (fun K hK => ?_) | refine pl_skipa rfl (by first | (go_simp; done) | rfl) (fun K hK => ?_)); go_simp; refine hK _ _ ?_; clear hK K)
 refine pl_act rfl (by first | exact wanted_none rfl | (go_simp; done) | rfl) (fun K hK => ?_)
 go_wp2_with fail
 refine (bytesq_any (res := true) (by simp) w_ HO.out HR.out (by have := HLK.out; omega)).mono ?_
 rintro e w2_ ⟨rfl, hb_⟩
 go_wp2_with fail
 refine hK _ _ (fun h => by first | exact hb_ | cases h) ?_
 clear hK K HO HR
 replace HB := kp (HB.out.grow' hb_)
 clear hb_
 try clear w_
 rename World => w_
 repeat ((first | refine plc (fun K hK => ?_) | refine pl_skip rfl (by first | (go_simp; done) | rfl) (fun K hK => ?_) | refine pl_skipa rfl (by first | (go_simp; done) | rfl) (fun K hK => ?_)); go_simp; refine hK _ _ ?_; clear hK K)
 refine pl_done ?_
 go_wp2_with fail
 go_ret
 exact ⟨rfl, HB.out⟩
open Go.RowKit Go.ChangeShapes Go.WideShapes
section
variable {H : Type} {enc : TypeId × Value → H} {w : World} {r : Reach} {b0 base : Nat} {spare : Nat → Bool} {held : Bool}
end
end Go.Proofs.YtnnjjbkdjkjnpaaGreatDoor
namespace Go.Proofs.YtnnjjbkdjkjnpaaGreatDoor
open Go.RowKit Go.Shelf
theorem great_tx {A : Option Addr} {n c : Nat} {A2 : Option Addr} {n2 c2 : Nat} {l : List (Value × Inp)} {os : List Outp} {fee ex : Int} {w : World} (hi : InsAt w A n c l) (ho : OutsAt w A2 n2 c2 os) (hf : U64 fee) (hx : I64 ex) (hg : greatT ⟨l.map Prod.snd, os, fee, ex⟩ = false) : TxAt w (txV A n c A2 n2 c2 fee ex) ⟨l.map Prod.snd, os, fee, ex⟩ := by
 unfold greatT at hg
 simp only [Bool.or_eq_false_iff, decide_eq_false_iff_not] at hg
 have h1 := hi.2.2.1; have h2 := ho.2.2.1
 have h3 : (l.map Prod.snd).length = l.length := List.length_map ..
 refine ⟨A, n, c, A2, n2, c2, fee, ex, l, os, rfl, rfl, hi, ho, by have := hg.1.1; simp only [h3] at this; omega, by have := hg.1.2; omega, hf, hx⟩
end Go.Proofs.YtnnjjbkdjkjnpaaGreatDoor

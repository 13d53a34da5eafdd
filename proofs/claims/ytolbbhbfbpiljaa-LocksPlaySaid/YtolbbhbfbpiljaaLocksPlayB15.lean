/- The contract of locks.Put1. Printed by mklockp.py. -/
import Derived.Test.YtolbbhbfbpiljaaLocksPlayB14
import Derived.Test.YtolbbhbfbpiljaaLocksPlayB8
import Derived.Test.YtolbbhbfbpiljaaLocksPlayB11
import Derived.Test.YtolbbhbfbpiljaaLocksPlayB12
set_option linter.unusedSimpArgs false
/- The contract of locks.Put1. Printed by mklockp.py. -/
namespace Go.Proofs.Ytolbbhbfbpiljaa
open Go.RowKit
set_option linter.unusedVariables false
theorem lockV_cl {x : LockV} (h : LockOK x) : Cl 65 (lockV x) := ⟨lockV_length h, lockV_one x⟩
theorem lockV_amt {x : LockV} (h : LockOK x) : (lockV x)[32]? = some (.int .u64 x.1.2) := by have := lock_coin (coinV_amt h.1); simpa using this
theorem LocksAt.grow {w w' : World} {g b : Nat} {L : LocksL} {s : Int} (h : LocksAt w g b L s) (k : Grow w w') : LocksAt w' g b L s := h.call k
theorem LocksAt.keptK {K : Nat → Prop} {w w' : World} {g b : Nat} {L : LocksL} {s : Int} (h : LocksAt w g b L s) (k : Kept K w w') (h1 : K g) (h2 : K b) : LocksAt w' g b L s := by
  obtain ⟨q1, ⟨es, clock, q2, q3, q4⟩, q5, q6⟩ := h
  exact ⟨k.blk q1 h1, ⟨es, clock, (k.block b h2).trans q2, q3, q4⟩, q5, q6⟩
set_option maxRecDepth 100000 in
set_option maxHeartbeats 8000000 in
theorem kput1_any (g b gp : Nat) (X L : LocksL) (s : Int) (w : World) (h : LocksAt w g b L s) (hr : RelK X L s) (hp : PenAt w (KR gp 0 0) gp []) (hg : g < gp) (hb : b < gp) :
    Calls Try.prog 70 #[.pointer (some ⟨g, 0, none⟩), .pointer (some ⟨gp, 0, none⟩)] w fun e w' => e = .returned (.tuple #[]) ∧ PenAt w' (KR gp 0 0) gp (bytesK X) ∧ Below gp w w' := by
  obtain ⟨n, hn⟩ : ∃ n, n = L.length := ⟨_, rfl⟩
  have hn256 : n ≤ 64 := by rw [hn]; exact hr.len
  have hXn : X.length = n := by rw [hr.lenX, hn]
  have HPT := Lib.hid (show bytesK X = numB n ++ X.flatMap putAtK by unfold bytesK; rw [hXn])
  have HR := Lib.hid hr; have HP := Lib.hid hp; have HC := Lib.hid h
  have HGB := Lib.hid (show KR gp 0 0 g ∧ KR gp 0 0 b from ⟨.inl hg, .inl hb⟩)
  have e0 : ∀ es : Array MapEntry, kvs es = encL L → es.size = n := fun es h5 => by rw [← kvs_length, h5]; simp [encL, hn]
  obtain ⟨es0, clock0, h3, h4, h5⟩ := h.map
  have e1 := e0 es0 h5
  have hl := fun ty => run_len_map w 118 ty b es0 clock0 Try.underlying118 h3
  simp only [e1] at hl
  have c1 : w.cell? ⟨g, 0, none⟩ = some (.map (some b)) := h.blk.at_ rfl
  have HNE := Lib.hid hn
  clear h hr hp h3 h4 h5 e0 e1 hn
  have q1 := conv_u64' (n := n) (by omega)
  obtain ⟨out, hout⟩ : ∃ q, q = bytesK X := ⟨_, rfl⟩
  rw [← hout] at HPT ⊢
  clear hout
  go_enter Try.func70, Try.ntmps70
  go_wp2_with fail
  refine (num_any gp n (KR gp 0 0) [] _ HP.out (by simp) (by omega)).mono ?_
  rintro e w1 ⟨rfl, hp_, hk_⟩
  have HP1 := Lib.hid (show PenAt w1 (KR gp 0 0) gp (numB n) from hp_)
  have HK1 := Lib.hid hk_
  have HC1 := Lib.hid (HC.out.keptK hk_ HGB.out.1 HGB.out.2)
  clear hp_ hk_ HP HC hl c1 q1
  have HALL := Lib.hid (kall_any g b L s w1 HC1.out (by rw [← HNE.out]; omega))
  go_wp2_with fail
  refine HALL.out.mono ?_
  rintro e w2 ⟨v, ks, rfl, hperm, ⟨ss, hss⟩, hrow, hb2⟩
  have hkx := HR.out.all hperm hss
  have hkl : ks.length = n := by have := congrArg List.length hkx; rw [List.length_map, List.length_map, hXn] at this; exact this
  obtain ⟨A, c, rfl⟩ := own_slice hrow
  rw [hkl] at hrow
  have HKX := Lib.hid hkx
  obtain ⟨z1, hz1⟩ : ∃ z, z = w1.heap.size := ⟨_, rfl⟩
  obtain ⟨z2, hz2⟩ : ∃ z, z = w2.heap.size := ⟨_, rfl⟩
  rw [← hz1] at hrow
  have HV := Lib.hid (show OwnP w2 z1 A n c ks from hrow)
  have HVB := Lib.hid (show ∀ q, A.map Addr.block = some q → KR gp z1 z2 q from fun q hq => .inr ⟨own_from hrow q hq, by rw [hz2]; exact own_lt hrow q hq⟩)
  have HGZ := Lib.hid (show gp < z1 by rw [hz1]; exact HP1.out.lt)
  have HP2 := Lib.hid (show PenAt w2 (KR gp z1 z2) gp (numB n) from HP1.out.more hb2 (fun j hj => by
    rcases hj with h | h
    · exact .inl (.inl h)
    · exact .inr (by rw [← hz1, ← hz2]; exact h)))
  have HK2 := Lib.hid (show Below gp w w2 from (HK1.out.below (fun j hj => .inl hj)).trans (hb2.mono (by rw [← hz1]; have := HGZ.out; omega)))
  have HC2 := Lib.hid (HC1.out.call hb2)
  have HZ2 := Lib.hid (show z2 = w2.heap.size from hz2)
  have HZ12 := Lib.hid (show z1 ≤ z2 by rw [hz1, hz2]; exact hb2.size)
  rw [hkl]
  clear hperm hss hrow hb2 hkx hkl hz1 hz2 HP1 HK1 HC1 HALL
  have HQ0 := Lib.hid (show numB n = numB n ++ (X.take 0).flatMap putAtK by simp)
  have HKQ0 := Lib.hid (Kept.refl (KR gp z1 z2) w2)
  go_wp2_with fail
  go_loopw [18] (fun iv wr => ∃ k : Nat, k ≤ n ∧ iv = .int .i64 k ∧ Hid (∃ acc : List UInt8, PenAt wr (KR gp z1 z2) gp acc ∧ acc.length ≤ 9 + k * 114 ∧ acc = numB n ++ (X.take k).flatMap putAtK ∧ Kept (KR gp z1 z2) w2 wr)) (fun iv _ => n - (intOf iv).toNat)
  case atStart => exact ⟨0, by omega, rfl, Lib.hid ⟨numB n, HP2.out, by have := numB_le (n := n) (by omega); omega, HQ0.out, HKQ0.out⟩⟩
  case round =>
    obtain ⟨k, hk, rfl, hI⟩ := hrel
    clear HP2 HQ0 HKQ0
    obtain ⟨acc, hpn, hal, hac, hkq⟩ := hI.out
    have HP := Lib.hid hpn; have HAC := Lib.hid hac; have HKQ := Lib.hid hkq
    clear hI hpn hac hkq
    rename World => w_
    by_cases hlt : k < n
    · obtain ⟨x, hx⟩ : ∃ x, ks[k]? = some x := ⟨_, List.getElem?_eq_getElem (by have := HV.out.len; omega)⟩
      obtain ⟨p, hp⟩ : ∃ p, X[k]? = some p := ⟨_, List.getElem?_eq_getElem (by omega)⟩
      have hxp : x.1 = p.1 := by
        have h1 := congrArg (fun l => l[k]?) HKX.out
        simp only [List.getElem?_map, hx, hp, Option.map_some] at h1
        exact Option.some.inj h1
      have hmem := List.mem_of_getElem? hp
      have hok := HR.out.okX p hmem
      have HSN := Lib.hid (fm_snocR putAtK hp)
      have hix := HR.out.ixX p hmem
      have hlk : lookL L p.1 = some p.2 := lookL_eq HR.out.ok.2 (HR.out.perm.mem_iff.1 hmem)
      obtain ⟨ix, hix1, hixl, hix2⟩ := natI (m := 15) hix.1 hix.2
      obtain ⟨am, ham, haml, ham2⟩ := natU hok.2.1.2.1 hok.2.1.2.2
      obtain ⟨tx, htx⟩ : ∃ q, q = p.1.1 := ⟨_, rfl⟩
      obtain ⟨fo, hfo⟩ : ∃ q, q = p.2.2 := ⟨_, rfl⟩
      obtain ⟨ow, how⟩ : ∃ q, q = p.2.1.1 := ⟨_, rfl⟩
      have HPI := Lib.hid (show putAtK p = tx ++ numB ix ++ fo ++ ow ++ numB am by unfold putAtK; rw [hix2, ham2, ← htx, ← hfo, ← how])
      have HDT := Lib.hid (show Dig (tx.map B) tx from ⟨rfl, by rw [htx]; exact hok.1.1⟩)
      have HDO := Lib.hid (show Dig (ow.map B) ow from ⟨rfl, by rw [how]; exact hok.2.1.1⟩)
      have HDF := Lib.hid (show Dig (fo.map B) fo from ⟨rfl, by rw [hfo]; exact hok.2.2⟩)
      have HPC := Lib.hid (ptV_cl hok.1); have HCC := Lib.hid (lockV_cl hok.2)
      have HE32 := Lib.hid (show (ptV p.1)[32]? = some (.int .i64 (ix : Int)) by rw [ptV_ix hok.1.1, hix1])
      have HC32 := Lib.hid (show (lockV p.2)[32]? = some (.int .u64 (am : Int)) by rw [lockV_amt hok.2, ham])
      have HET := Lib.hid (show ∀ j u, (tx.map B)[j]? = some u → (ptV p.1)[0 + j]? = some u from fun j u hu => by
        rw [Nat.zero_add]; unfold ptV; rw [← htx, List.getElem?_append_left (List.getElem?_eq_some_iff.1 hu).1]; exact hu)
      have HEO := Lib.hid (show ∀ j u, (ow.map B)[j]? = some u → (lockV p.2)[0 + j]? = some u from fun j u hu => lock_coin (by
        unfold coinV; rw [← how, List.getElem?_append_left (List.getElem?_eq_some_iff.1 hu).1]; exact hu))
      have HEF := Lib.hid (show ∀ j u, (fo.map B)[j]? = some u → (lockV p.2)[33 + j]? = some u from fun j u hu => lock_id hok.2 (by rw [← hfo]; exact hu))
      have HLK := Lib.hid (show ∀ w', LocksAt w' g b L s → (Instr.lookup 118 (.map (some b)) (.agg (ptV p.1).toArray) false).run Try.prog w' = .ok (.agg (lockV p.2).toArray) w' from fun w' h' => by
        obtain ⟨c', _, e2, h2⟩ := h'.look0 hok.1
        rw [hlk] at e2
        have : c' = p.2 := e2
        rw [this] at h2
        exact h2)
      obtain ⟨g0, cur, hA, _, _, _, _, hbk, _, _⟩ := HV.out.form (by omega)
      subst hA
      have HMC := Lib.hid (show ∀ j u, (ptV p.1)[j]? = some u → w_.cell? ⟨g0, k * 33 + j, none⟩ = some u from fun j u hu => by
        have h1 := HV.out.at_ hx j u (by unfold encPt; rw [hxp]; exact hu)
        rw [hbk.cell] at h1
        exact (HKQ.out.blk hbk (HVB.out g0 rfl)).at_ h1)
      obtain ⟨es, hes⟩ : ∃ q, q = ptV p.1 := ⟨_, rfl⟩
      obtain ⟨cs, hcs⟩ : ∃ q, q = lockV p.2 := ⟨_, rfl⟩
      rw [← hes] at HPC HE32 HET HLK HMC
      rw [← hcs] at HCC HC32 HEO HEF HLK
      obtain ⟨tb, htb⟩ : ∃ q, q = tx.map B := ⟨_, rfl⟩
      rw [← htb] at HDT HET
      obtain ⟨ob, hob⟩ : ∃ q, q = ow.map B := ⟨_, rfl⟩
      rw [← hob] at HDO HEO
      obtain ⟨fb, hfb⟩ : ∃ q, q = fo.map B := ⟨_, rfl⟩
      rw [← hfb] at HDF HEF
      clear hx hp hxp hmem hok hix hlk hix1 hix2 ham ham2 htx how hfo hes hcs htb hob hfb hbk
      have hlix := numB_le (n := ix) (by omega); have hlam := numB_le (n := am) (by omega)
      have htl : tx.length = 32 := HDT.out.2
      have hol : ow.length = 32 := HDO.out.2
      have hfl : fo.length = 32 := HDF.out.2
      have HCW := Lib.hid (show LocksAt w_ g b L s from HC2.out.keptK HKQ.out (.inl hg) (.inl hb))
      have hwz : z2 ≤ w_.heap.size := by rw [HZ2.out]; exact HKQ.out.size
      have HWZ := Lib.hid hwz
      obtain ⟨wq, hwq⟩ : ∃ q, q = w_ := ⟨_, rfl⟩
      have HB := Lib.hid (show Below wq.heap.size wq w_ by rw [hwq]; exact Below.refl _ _)
      rw [← hwq] at HP HKQ HWZ
      clear hwq hwz
      go_wp2_with (first | (with_reducible refine wpl_loadm (o := ⟨some 21, _, _, _, _, _⟩) rfl rfl row_point HMC.out rfl HPC.out.len ?_) | (with_reducible refine wpl_alloc (o := ⟨some 5, _, _, _, _, _⟩) rfl rfl zero_point ?_))
      intro w1_ hb1_ hbw1_ hsz1_
      have HB1_ := Lib.hid (at_mk hb1_ len_point)
      have HBW1_ := Lib.hid hbw1_
      have HZ1_ := Lib.hid hsz1_
      clear hb1_ hbw1_ hsz1_
      go_wp2_with (first | (with_reducible refine wpl_storeb (o := ⟨none, .store _ _ _, _, _, _, _⟩) rfl rfl row_point HB1_.out.blk rfl rfl HB1_.out.len HPC.out.len HPC.out.one ?_))
      intro w2_ hb2_ hg2_ hsz2_
      have HG_ := Lib.hid HB.out.size
      have hb_ := var_grow HBW1_.out HZ1_.out hg2_
      have HX_ := Lib.hid (at_mk hb2_ HPC.out.len)
      clear hb2_ hg2_ hsz2_ HB1_ HBW1_ HZ1_
      have HB_ := Lib.hid (HB.out.grow' hb_)
      clear HB
      have HB := HB_
      clear HB_
      have HCW_ := Lib.hid (HCW.out.grow hb_)
      clear HCW
      have HCW := HCW_
      clear HCW_
      generalize hg_ : w_.heap.size = g5 at HX_ HG_ ⊢
      clear hg_
      have HE := HX_
      clear hb_ HX_
      clear w1_
      try clear w_
      rename World => w_
      have HE_g := HG_
      clear HG_
      clear HMC
      have HEG := Lib.hid (show wq.heap.size ≤ g5 ∧ g5 < w_.heap.size from ⟨HE_g.out, HE.out.lt⟩)
      obtain ⟨g6, hg6⟩ : ∃ q, q = w_.heap.size := ⟨_, rfl⟩
      go_wp2_with fail
      repeat' (first | (with_reducible refine wp_phase (id := 4) (newC w_ 122 (lockV noLock) cs) [6, 7] [(0,2),(0,2),(0,2),(0,2),(0,2),(0,2),(0,0),(1,1)] (by kernel_rfl) (by kernel_rfl) ?_ ?_) | go_values | go_skip | go_guarded | go_step | go_upon | go_back)
      · exact newC.start
      have HF := Lib.hid (show ∀ k w', newC w_ 122 (lockV noLock) cs k w' → w'.cell? ⟨g, 0, none⟩ = some (.map (some b)) from fun k w' h => (HCW.out.call (newC.low k w' h)).blk.at_ rfl)
      have HL := Lib.hid (show ∀ k w', newC w_ 122 (lockV noLock) cs k w' → (Instr.lookup 118 (.map (some b)) (.agg es.toArray) false).run Try.prog w' = .ok (.agg cs.toArray) w' from fun k w' h => HLK.out w' (HCW.out.call (newC.low k w' h)))
      have HX1 := Lib.hid (show ∀ k w', newC w_ 122 (lockV noLock) cs k w' → Blk w' g5 52 es from fun k w' h => HE.out.blk.call (newC.low k w' h))
      refine ph_value rfl (by first | rfl | go_simp) (fun k_ _ _ w_ hC_ => by first | (go_simp; rfl) | (go_simp; done) | rfl) (fun K hK => ?_)
      go_simp
      refine hK _ ?_
      clear hK K
      refine ph_value rfl (by first | rfl | go_simp) (fun k_ _ _ w_ hC_ => by first | (go_simp; rfl) | (go_simp; done) | rfl) (fun K hK => ?_)
      go_simp
      refine hK _ ?_
      clear hK K
      refine ph_value rfl (by first | rfl | go_simp) (fun k_ _ _ w_ hC_ => by first | (go_simp; rfl) | (go_simp; done) | rfl) (fun K hK => ?_)
      go_simp
      refine hK _ ?_
      clear hK K
      refine ph_value rfl (by first | rfl | go_simp) (fun k_ _ _ w_ hC_ => by have c1 := HF.out _ _ hC_; first | (go_simp; rfl) | (go_simp; done) | rfl) (fun K hK => ?_)
      go_simp
      refine hK _ ?_
      clear hK K
      refine ph_load rfl rfl rfl row_point (fun k _ _ w h => HX1.out k w h) rfl HPC.out.len ?_
      (intro K hK; go_simp; refine hK _ ?_; clear hK K)
      refine ph_value rfl (by first | rfl | go_simp) (fun k_ _ _ w_ hC_ => by have c1 := HL.out _ _ hC_; first | (go_simp; rfl) | (go_simp; done) | rfl) (fun K hK => ?_)
      go_simp
      refine hK _ ?_
      clear hK K
      refine ph_alloc 0 rfl rfl rfl rfl rfl zero_lock newC.lay ?_
      (intro K hK; go_simp; refine hK _ ?_; clear hK K)
      refine ph_store 1 rfl rfl rfl rfl rfl row_lock rfl rfl HCC.out.len HCC.out.one (newC.put (lockV_length noLock_ok)) ?_
      (intro K hK; go_simp; refine hK _ ?_; clear hK K)
      refine ph_nil ?_
      intro w3 ⟨hl3, hs3, hx3⟩
      rw [← hg6] at hs3 hx3 ⊢
      replace HE := Lib.hid (HE.out.grow hl3)
      have HX := Lib.hid (show At w3 g6 122 65 cs from at_mk hx3 HCC.out.len)
      replace HB := Lib.hid (HB.out.grow' hl3)
      obtain ⟨z3, hz3⟩ : ∃ q, q = wq.heap.size := ⟨_, rfl⟩
      obtain ⟨z4, hz4⟩ : ∃ q, q = w3.heap.size := ⟨_, rfl⟩
      have HKE := Lib.hid (show KS gp z1 z2 z3 z4 g5 ∧ KS gp z1 z2 z3 z4 g6 by
        have h1 := HEG.out
        refine ⟨.inr ⟨by rw [hz3]; exact h1.1, by rw [hz4]; omega⟩, .inr ⟨by rw [hz3, hg6]; omega, by rw [hz4]; omega⟩⟩)
      have HPN := Lib.hid (show PenAt w3 (KS gp z1 z2 z3 z4) gp acc from HP.out.more HB.out (fun j hj => by
        rcases hj with h | h
        · exact .inl h
        · exact .inr (by rw [← hz3, ← hz4]; exact h)))
      have HKN := Lib.hid (show Kept (KR gp z1 z2) w2 w3 from HKQ.out.trans (Kept.of_grow HB.out (fun j hj => by
        have h1 := HWZ.out; have h2 := HGZ.out; have h3 := HZ12.out
        rcases hj with h | h <;> omega)))
      clear hl3 hs3 hx3 HF HL HX1 HCW HB HP HKQ HEG hg6 hz3 hz4 HWZ HE_g HLK
      try clear w_
      try clear wq
      rename World => w_
      have HMT := Lib.hid (show ∀ j u, tb[j]? = some u → w_.cell? ⟨g5, 0 + j, none⟩ = some u from fun j u hu => HE.out.blk.at_ (HET.out j u hu))
      go_wp2_with (first | (with_reducible refine wpl_loadm (o := ⟨some 30, _, _, _, _, _⟩) rfl rfl row_idk HMT.out rfl HDT.out.len ?_))
      clear HMT
      go_wp2_with fail
      refine (pid_any gp (KS gp z1 z2 z3 z4) acc HDT.out _ HPN.out (by omega)).mono ?_
      rintro e w2_ ⟨rfl, hp_, hk_⟩
      replace HPN := Lib.hid hp_
      replace HKN := Lib.hid (HKN.out.trans (hk_.mono (fun j hj => .inl hj)))
      replace HE := Lib.hid (at_mk (hk_.blk HE.out.blk HKE.out.1) HE.out.len)
      replace HX := Lib.hid (at_mk (hk_.blk HX.out.blk HKE.out.2) HX.out.len)
      clear hp_ hk_
      try clear w_
      rename World => w_
      have c1 := HE.out.blk.at_ HE32.out
      have q1 := conv_u64' (n := ix) (by omega)
      go_wp2_with fail
      refine (num_any gp ix (KS gp z1 z2 z3 z4) (acc ++ tx) _ HPN.out (by clear q1; rw [List.length_append]; omega) (by omega)).mono ?_
      rintro e w2_ ⟨rfl, hp_, hk_⟩
      replace HPN := Lib.hid hp_
      replace HKN := Lib.hid (HKN.out.trans (hk_.mono (fun j hj => .inl hj)))
      replace HE := Lib.hid (at_mk (hk_.blk HE.out.blk HKE.out.1) HE.out.len)
      replace HX := Lib.hid (at_mk (hk_.blk HX.out.blk HKE.out.2) HX.out.len)
      clear hp_ hk_
      try clear w_
      rename World => w_
      clear c1 q1
      have HMT := Lib.hid (show ∀ j u, fb[j]? = some u → w_.cell? ⟨g6, 33 + j, none⟩ = some u from fun j u hu => HX.out.blk.at_ (HEF.out j u hu))
      go_wp2_with (first | (with_reducible refine wpl_loadm (o := ⟨some 39, _, _, _, _, _⟩) rfl rfl row_idk HMT.out rfl HDF.out.len ?_))
      clear HMT
      go_wp2_with fail
      refine (pid_any gp (KS gp z1 z2 z3 z4) (acc ++ tx ++ numB ix) HDF.out _ HPN.out (by simp only [List.length_append]; omega)).mono ?_
      rintro e w2_ ⟨rfl, hp_, hk_⟩
      replace HPN := Lib.hid hp_
      replace HKN := Lib.hid (HKN.out.trans (hk_.mono (fun j hj => .inl hj)))
      replace HE := Lib.hid (at_mk (hk_.blk HE.out.blk HKE.out.1) HE.out.len)
      replace HX := Lib.hid (at_mk (hk_.blk HX.out.blk HKE.out.2) HX.out.len)
      clear hp_ hk_
      try clear w_
      rename World => w_
      have HMT := Lib.hid (show ∀ j u, ob[j]? = some u → w_.cell? ⟨g6, 0 + j, none⟩ = some u from fun j u hu => HX.out.blk.at_ (HEO.out j u hu))
      go_wp2_with (first | (with_reducible refine wpl_loadm (o := ⟨some 44, _, _, _, _, _⟩) rfl rfl row_idk HMT.out rfl HDO.out.len ?_))
      clear HMT
      go_wp2_with fail
      refine (pid_any gp (KS gp z1 z2 z3 z4) (acc ++ tx ++ numB ix ++ fo) HDO.out _ HPN.out (by simp only [List.length_append]; omega)).mono ?_
      rintro e w2_ ⟨rfl, hp_, hk_⟩
      replace HPN := Lib.hid hp_
      replace HKN := Lib.hid (HKN.out.trans (hk_.mono (fun j hj => .inl hj)))
      replace HE := Lib.hid (at_mk (hk_.blk HE.out.blk HKE.out.1) HE.out.len)
      replace HX := Lib.hid (at_mk (hk_.blk HX.out.blk HKE.out.2) HX.out.len)
      clear hp_ hk_
      try clear w_
      rename World => w_
      have c1 := HX.out.blk.at_ HC32.out
      go_wp2_with fail
      refine (num_any gp am (KS gp z1 z2 z3 z4) (acc ++ tx ++ numB ix ++ fo ++ ow) _ HPN.out (by simp only [List.length_append]; omega) (by omega)).mono ?_
      rintro e w2_ ⟨rfl, hp_, hk_⟩
      replace HPN := Lib.hid hp_
      replace HKN := Lib.hid (HKN.out.trans (hk_.mono (fun j hj => .inl hj)))
      replace HE := Lib.hid (at_mk (hk_.blk HE.out.blk HKE.out.1) HE.out.len)
      replace HX := Lib.hid (at_mk (hk_.blk HX.out.blk HKE.out.2) HX.out.len)
      clear hp_ hk_
      try clear w_
      rename World => w_
      clear c1
      have HREL := Lib.hid (show ∃ acc : List UInt8, PenAt w_ (KR gp z1 z2) gp acc ∧ acc.length ≤ 9 + (k + 1) * 114 ∧ acc = numB n ++ (X.take (k + 1)).flatMap putAtK ∧ Kept (KR gp z1 z2) w2 w_ from ⟨acc ++ tx ++ numB ix ++ fo ++ ow ++ numB am, HPN.out.less (fun j hj => .inl hj), by simp only [List.length_append]; omega, by rw [HSN.out, HPI.out, HAC.out]; simp only [List.append_assoc], HKN.out⟩)
      clear HPN HKN HE HX hlix hlam htl hol hfl
      have v1 : IntKind.i64.wrap ((k : Int) + 1) = (k : Int) + 1 := IntWalk.i64_in _ (by omega)
      go_wp2_with fail
      go_roundw
      all_goals clear v1
      case rel => exact ⟨k + 1, by omega, by go_num, HREL⟩
      case measure => simp [intOf]; omega
    · obtain rfl : k = n := by omega
      have HAE := Lib.hid (show acc = out by have h := HAC.out; rw [List.take_of_length_le (by omega)] at h; rw [HPT.out]; exact h)
      have HEND := Lib.hid (show PenAt w_ (KR gp 0 0) gp out ∧ Below gp w w_ from ⟨by rw [← HAE.out]; exact HP.out.less (fun j hj => by rcases hj with h | h; exact .inl h; omega), HK2.out.trans (HKQ.out.below (fun j hj => .inl hj))⟩)
      go_wp2_with fail
      refine bodyPost_end (results_none rfl _ _ _) rfl ?_
      exact ⟨rfl, HEND.out⟩
end Go.Proofs.Ytolbbhbfbpiljaa

/- slices.DeleteFunc at the function of locks.Of; the contract of locks.Of. -/
namespace Go.Proofs.Ytolbbhbfbpiljaa
open Go.RowKit Go.Sort
set_option linter.unusedVariables false
theorem zero_ptz : (Try.prog.info? 52).map (·.zero) = some (some (.agg (encPt default).toArray)) := by kernel_rfl
set_option maxRecDepth 100000 in
set_option maxHeartbeats 4000000 in
theorem delf_any (Z : Nat) (w0 : World) (hZ : Z ≤ w0.heap.size) (Bl Bi : Nat) (dl : PtS → Bool) (HD : ∀ w', Below Z w0 w' → ∀ x : PtS, Calls Try.prog 56 #[ptA x.1, .pointer (some ⟨Bl, 0, none⟩), .pointer (some ⟨Bi, 0, none⟩)] w' fun e w'' => e = .returned (.bool (dl x)) ∧ Below w'.heap.size w' w'')
    {A : Option Addr} {n c : Nat} {ks : List PtS} (w : World) (hB : Below Z w0 w) (h : OwnP w Z A n c ks) (hn : n ≤ 1000000) :
    Calls Try.prog 54 #[.slice A n c, ofV Bl Bi] w fun e w' => ∃ m, e = .returned (.slice A m c) ∧ OwnP w' Z A m c (ks.filter fun x => !dl x) ∧ Below Z w0 w' := by
  have HO := Lib.hid h; have HL := Lib.hid h.len; have HB0 := Lib.hid hB; have HDD := Lib.hid HD; have HZZ := Lib.hid (Nat.le_trans hZ hB.size)
  have HIX := Lib.hid (ix_any Z w0 hZ Bl Bi dl HD w hB h hn)
  have HZL := Lib.hid (encPt_len default)
  unfold ofV at HIX ⊢
  clear h HD hB
  go_enter Try.func54, Try.ntmps54
  go_wp2_with fail
  refine HIX.out.mono ?_
  rintro e w1 ⟨r, rfl, hr, hb1⟩
  have HB1 := Lib.hid (HB0.out.trans (hb1.mono HZZ.out))
  have HO1 := Lib.hid (HO.out.call hb1)
  clear hb1 HIX HB0 HO
  rcases hr with ⟨rfl, hall⟩ | ⟨i0, x0, rfl, hx0, hd0, hpre⟩
  · have HF := Lib.hid (show ks.filter (fun x => !dl x) = ks from List.filter_eq_self.2 fun x hx => by rw [hall x hx]; rfl)
    clear hall
    go_wp2_with fail
    go_ret
    exact ⟨n, rfl, by rw [HF.out]; exact HO1.out, HB1.out⟩
  · have hi0 : i0 < n := by have := (List.getElem?_eq_some_iff.1 hx0).1; have := HL.out; omega
    obtain ⟨g, cur0, rfl, hg1, hg2, hnc, hcm, -⟩ := HO1.out.form (by omega)
    have HS0 := Lib.hid (show ks.take i0 = (ks.take (i0 + 1)).filter fun x => !dl x by
      rw [List.take_add_one, hx0, List.filter_append, show (some x0).toList.filter (fun x => !dl x) = [] from by simp [hd0], List.append_nil]
      exact (List.filter_eq_self.2 fun x hx => by rw [hpre x hx]; rfl).symm)
    have hc63 : c ≤ 9223372036854775807 := by unfold maxLen at hcm; omega
    have q0 : ((i0 : Int) == -1) = false := beq_eq_false_iff_ne.2 (by omega)
    have HGZ := Lib.hid hg1
    clear hx0 hd0 hpre hg1 hcm hg2
    go_wp2_with fail
    go_loopw [5, 6] (fun s5 iv wr => ∃ i j : Nat, i < j ∧ j ≤ n ∧ s5 = .int .i64 i ∧ iv = .int .i64 j ∧ Hid (∃ ys, OwnP wr Z (some ⟨g, 0, none⟩) n c ys ∧ ys.take i = (ks.take j).filter (fun x => !dl x) ∧ ys.drop j = ks.drop j ∧ Below Z w0 wr ∧ g < wr.heap.size)) (fun _ iv _ => n - (intOf iv).toNat)
    case atStart => exact ⟨i0, i0 + 1, by omega, by omega, rfl, by go_num, Lib.hid ⟨ks, HO1.out, HS0.out, rfl, HB1.out, by obtain ⟨g', _, hA, _, hlt, _⟩ := HO1.out.form (by omega); injection hA with hA; injection hA with hA; subst hA; exact hlt⟩⟩
    case round =>
      obtain ⟨i, j, hij, hj, rfl, rfl, hI⟩ := hrel
      clear HB1 HO1 HS0
      obtain ⟨ys, hO, hT, hD, hB, hG⟩ := hI.out
      have HO := Lib.hid hO; have HT := Lib.hid hT; have HD := Lib.hid hD; have HB := Lib.hid hB; have HG := Lib.hid hG
      clear hI hO hT hD hB hG
      by_cases hlt : j < n
      · have hyl := HO.out.len
        have hkk : ks[j]? = some (ks[j]'(by have := HL.out; omega)) := List.getElem?_eq_getElem _
        obtain ⟨x, hx⟩ : ∃ x, x = ks[j]'(by have := HL.out; omega) := ⟨_, rfl⟩
        rw [← hx] at hkk
        have hyk : ys[j]? = some x := by
          have h1 : (ys.drop j)[0]? = (ks.drop j)[0]? := by rw [HD.out]
          rw [List.getElem?_drop, List.getElem?_drop, Nat.add_zero] at h1
          rw [h1]; exact hkk
        have HKK := Lib.hid hkk
        have HCE := Lib.hid (HO.out.at_ hyk)
        have HXL := Lib.hid (encPt_len x); have HX1 := Lib.hid (encPt_one x)
        have HYL := Lib.hid hyl
        obtain ⟨xs, hxs⟩ : ∃ q, q = encPt x := ⟨_, rfl⟩
        have HXE := Lib.hid hxs
        rw [← hxs] at HCE HXL HX1
        clear hkk hx hyk hxs hyl
        go_wp2_with (first | (with_reducible refine wpl_loadm (o := ⟨some 25, _, _, _, _, _⟩) rfl rfl row_point HCE.out rfl HXL.out ?_) | (with_reducible refine wpl_alloc (o := ⟨some 7, _, _, _, _, _⟩) rfl rfl zero_ptz ?_))
        intro w2 hb2 hbw2 hsz2
        have HV2 := Lib.hid hb2
        have HO2 := Lib.hid (HO.out.call hbw2)
        have HB2 := Lib.hid (HB.out.trans (hbw2.mono (Nat.le_trans hZ HB.out.size)))
        have HGN := Lib.hid (show g ≠ wr.heap.size ∧ Z ≤ wr.heap.size from ⟨by have := HG.out; omega, Nat.le_trans hZ HB.out.size⟩)
        have HG2 := Lib.hid (show g < w2.heap.size by have := HG.out; omega)
        clear hb2 hbw2 hsz2 HO HB HG HCE
        obtain ⟨gv, hgv⟩ : ∃ q, q = wr.heap.size := ⟨_, rfl⟩
        rw [← hgv] at HV2 HGN ⊢
        clear hgv
        go_wp2_with (first | (with_reducible refine wpl_storeb (o := ⟨none, .store _ _ _, _, _, _, _⟩) rfl rfl row_point HV2.out rfl rfl HZL.out HXL.out HX1.out ?_))
        intro w3 hb3 hg3 hs3
        have HV3 := Lib.hid hb3
        have HO3 := Lib.hid (own_of_block HO2.out (w' := w3) fun q hq => by
          have : q = g := by simpa using hq.symm
          subst this
          exact hg3.block q HG2.out (by have := HGN.out.1; simpa using this))
        have HB3 := Lib.hid (HB2.out.grown hg3 (Nat.le_trans hZ HB2.out.size) (fun q hq => by cases hq; exact HGN.out.2))
        have HG3 := Lib.hid (show g < w3.heap.size by rw [hs3]; exact HG2.out)
        clear hb3 hg3 hs3 HV2 HO2 HB2 HG2
        have HCL := Lib.hid (HDD.out w3 HB3.out x)
        rw [show ptA x.1 = .agg (encPt x).toArray from rfl, ← HXE.out] at HCL
        obtain ⟨r, hr⟩ : ∃ r, r = dl x := ⟨_, rfl⟩
        rw [← hr] at HCL
        have HRX := Lib.hid hr
        clear hr
        go_wp2_with (first | (with_reducible refine wpl_loadb (o := ⟨some 27, _, _, _, _, _⟩) rfl rfl row_point HV3.out rfl HXL.out ?_))
        refine HCL.out.mono ?_
        rintro e w4 ⟨rfl, hb4⟩
        have HV4 := Lib.hid (HV3.out.call hb4)
        have HO4 := Lib.hid (OwnP.call HO3.out hb4)
        have HB4 := Lib.hid (HB3.out.trans (hb4.mono (Nat.le_trans hZ HB3.out.size)))
        have HG4 := Lib.hid (Nat.lt_of_lt_of_le HG3.out hb4.size)
        clear hb4 HV3 HO3 HB3 HG3 HCL
        have HDN := Lib.hid (show ys.drop (j + 1) = ks.drop (j + 1) by
          have h1 := congrArg (List.drop 1) HD.out
          rw [List.drop_drop, List.drop_drop] at h1; exact h1)
        cases r with
        | true =>
          have HTN := Lib.hid (show ys.take i = (ks.take (j + 1)).filter (fun x => !dl x) by
            rw [List.take_add_one, HKK.out, List.filter_append, show (some x).toList.filter (fun x => !dl x) = [] from by simp [← HRX.out], List.append_nil]; exact HT.out)
          go_wp2_with fail
          go_roundw
          case rel => exact ⟨i, j + 1, by omega, by omega, rfl, by go_num, Lib.hid ⟨ys, HO4.out, HTN.out, HDN.out, HB4.out, HG4.out⟩⟩
          case measure => simp [intOf]; omega
        | false =>
          have HTN := Lib.hid (show (ys.set i x).take (i + 1) = (ks.take (j + 1)).filter (fun x => !dl x) by
            have hl := HYL.out
            rw [List.take_add_one (l := ks), HKK.out, List.filter_append, show (some x).toList.filter (fun x => !dl x) = [x] from by simp [← HRX.out], List.take_add_one, List.getElem?_set_self (by omega), List.take_set_of_le (Nat.le_refl _), HT.out]; rfl)
          have HDS := Lib.hid (show (ys.set i x).drop (j + 1) = ks.drop (j + 1) by rw [List.drop_set, if_pos (by omega)]; exact HDN.out)
          obtain ⟨g', cur, hA, hZg, _, _, _, hblk, hcl, _⟩ := HO4.out.form (by omega)
          injection hA with hA; injection hA with hA; subst hA
          have HBK := Lib.hid hblk
          have HCL2 := Lib.hid (show i * 33 + 33 ≤ cur.length by rw [hcl]; omega)
          have hin : i < n := by omega
          clear hblk hcl
          go_wp2_with (first | (with_reducible refine wpl_loadb (o := ⟨some 32, _, _, _, _, _⟩) rfl rfl row_point HV4.out rfl HXL.out ?_) | (with_reducible refine wpl_storep (o := ⟨none, .store _ _ _, _, _, _, _⟩) rfl rfl row_point HBK.out rfl rfl HXL.out HCL2.out HX1.out ?_))
          intro w5 hb5 hg5 hs5
          rw [HXE.out] at hb5
          have HO5 := Lib.hid (HO4.out.set_ hin HBK.out x hb5)
          have HB5 := Lib.hid (HB4.out.grown hg5 (Nat.le_trans hZ HB4.out.size) (fun q hq => by cases hq; exact hZg))
          have HG5 := Lib.hid (show g < w5.heap.size by rw [hs5]; exact HG4.out)
          clear hb5 hg5 hs5
          go_wp2_with fail
          go_roundw
          case rel => exact ⟨i + 1, j + 1, by omega, by omega, by go_num, by go_num, Lib.hid ⟨ys.set i x, HO5.out, HTN.out, HDS.out, HB5.out, HG5.out⟩⟩
          case measure => simp [intOf]; omega
      · obtain rfl : j = n := by omega
        have HFL := Lib.hid (show ys.take i = ks.filter (fun x => !dl x) by
          have h1 := HT.out
          rw [List.take_of_length_le (l := ks) (i := j) (by have := HL.out; omega)] at h1; exact h1)
        have HTK := Lib.hid (own_take (i := i) HO.out (by omega))
        obtain ⟨g', cur, hA, hZg, _, hjc, _, _, _, _⟩ := HO.out.form (by omega)
        injection hA with hA; injection hA with hA; subst hA
        obtain ⟨w5, hr5, ho5, hg5, hs5⟩ := run_clear_own (ty := 0) (m := j - i) (c2 := c - i) el_pt zero_ptz (encPt_one default) HTK.out (by omega)
        have HO5 := Lib.hid (show OwnP w5 Z (some ⟨g, 0, none⟩) i c (ks.filter fun x => !dl x) by rw [pf_take, HFL.out] at ho5; exact ho5)
        have HB5 := Lib.hid (HB.out.grown hg5 (Nat.le_trans hZ HB.out.size) (fun q hq => by cases hq; exact hZg))
        have HR5 := Lib.hid hr5
        have q1 : i ≤ j := by omega
        have q2 : (i : Int) ≤ (j : Int) := by omega
        have q3 : i ≤ c := by omega
        have q4 : (i : Int) ≤ (c : Int) := by omega
        have q5 : ¬ ((i : Int) = (c : Int)) := by omega
        have q6 : ((i : Int) == (c : Int)) = false := beq_eq_false_iff_ne.2 q5
        have q7 : ¬ (c = i) := by omega
        clear ho5 hg5 hs5 hr5
        go_wp2_with (first | (refine wpl_clear_run (o := ⟨none, .call _, _, _, _, _⟩) rfl rfl (by first | rfl | (go_simp; done)) HR5.out ?_))
        go_ret
        exact ⟨i, rfl, HO5.out, HB5.out⟩
end Go.Proofs.Ytolbbhbfbpiljaa

/- The contract of locks.Of. -/
namespace Go.Proofs.Ytolbbhbfbpiljaa
open Go.RowKit Go.Sort
set_option linter.unusedVariables false
theorem lookL_mem {L : LocksL} {e : PtK × LockV} (h : e ∈ L) (hd : (L.map (·.1)).Nodup) : lookL L e.1 = some e.2 := by
  unfold lookL
  induction L with
  | nil => cases h
  | cons x L ih =>
    rw [List.map_cons, List.nodup_cons] at hd
    by_cases hx : (x.1 == e.1) = true
    · rw [List.find?_cons_of_pos (by exact hx)]
      rcases List.mem_cons.1 h with rfl | h2
      · rfl
      · exact absurd (List.mem_map_of_mem (f := fun x : PtK × LockV => x.1) h2) (by show e.1 ∉ _; rw [← eq_of_beq hx]; exact hd.1)
    · rw [List.find?_cons_of_neg (by simpa using hx)]
      rcases List.mem_cons.1 h with rfl | h2
      · simp at hx
      · exact ih h2 hd.2
def heldFor (L : LocksL) (id : List UInt8) (p : PtK) : Bool := decide (((lookL L p).getD noLock).2 = id)
theorem held_perm {L : LocksL} {ks : List PtS} {id : List UInt8} (hp : (ks.map (·.1)).Perm (L.map (·.1))) (hd : (L.map (·.1)).Nodup) :
    ((ks.filter fun x => heldFor L id x.1).map (·.1)).Perm ((L.filter fun e => decide (e.2.2 = id)).map (·.1)) := by
  have e1 : (ks.filter fun x => heldFor L id x.1).map (·.1) = (ks.map (·.1)).filter (heldFor L id) := by rw [List.filter_map]; rfl
  have e2 : (L.filter fun e => decide (e.2.2 = id)).map (·.1) = (L.map (·.1)).filter (heldFor L id) := by
    rw [List.filter_map]
    congr 1
    refine List.filter_congr fun e he => ?_
    show _ = decide (((lookL L e.1).getD noLock).2 = id)
    rw [lookL_mem he hd]; rfl
  rw [e1, e2]
  exact hp.filter _
set_option maxRecDepth 100000 in
set_option maxHeartbeats 2000000 in
theorem kof_any (g b : Nat) (L : LocksL) (s : Int) (id : List UInt8) (w : World) (h : LocksAt w g b L s) (hi : id.length = 32) (hn : L.length ≤ 1000000) :
    Calls Try.prog 23 #[.pointer (some ⟨g, 0, none⟩), .agg (id.map B).toArray] w fun e w' => ∃ A n c ss, ∃ ks : List PtS, e = .returned (.slice A n c) ∧ OwnP w' w.heap.size A n c ks ∧ ks = (sortP ss).filter (fun x => heldFor L id x.1) ∧ ((sortP ss).map (·.1)).Perm (L.map (·.1)) ∧ (ks.map (·.1)).Perm ((L.filter fun e => decide (e.2.2 = id)).map (·.1)) ∧ Below w.heap.size w w' := by
  have HH := Lib.hid h; have HI := Lib.hid hi; have HN := Lib.hid hn
  have HIL := Lib.hid (show (id.map B).length = 32 by rw [List.length_map, hi])
  obtain ⟨is, his⟩ : ∃ q, q = id.map B := ⟨_, rfl⟩
  have HIE := Lib.hid his
  rw [← his] at HIL ⊢
  obtain ⟨z, hz⟩ : ∃ z, z = w.heap.size := ⟨_, rfl⟩
  have hg : g < z := by rw [hz]; exact h.ltg
  have hb : b < z := by rw [hz]; exact h.ltb
  have HZ := Lib.hid hz
  rw [← hz]
  clear h hi hn his hz
  go_enter Try.func23, Try.ntmps23
  go_wp2_with (first | (with_reducible refine wpl_box (o := ⟨some 3, _, _, _, _, _⟩) rfl rfl rfl ?_))
  intro w2 hb2 hbw2 hsz2
  have HC2 := Lib.hid (show (w.alloc (.cells #[.pointer (some ⟨g, 0, none⟩)] 48)).cell? ⟨z, 0, none⟩ = some (.pointer (some ⟨g, 0, none⟩)) by rw [HZ.out]; unfold World.cell?; rw [heap_alloc_new]; rfl)
  have HBA := Lib.hid (show Below z w (w.alloc (.cells #[.pointer (some ⟨g, 0, none⟩)] 48)) from by rw [HZ.out]; exact (Below.refl _ w).alloc (Nat.le_refl _) _)
  have HSA := Lib.hid (show (w.alloc (.cells #[.pointer (some ⟨g, 0, none⟩)] 48)).heap.size = z + 1 by rw [HZ.out]; simp)
  generalize w.alloc (.cells #[.pointer (some ⟨g, 0, none⟩)] 48) = wa at *
  rw [← HZ.out] at hb2 hbw2 hsz2 ⊢
  have HL2 := Lib.hid ((HH.out.below HBA.out hg hb).below hbw2 (by omega) (by omega))
  have HBL2 := Lib.hid ((hbw2.cell (p := ⟨z, 0, none⟩) (show z < z + 1 by omega)).trans HC2.out)
  have HBI2 := Lib.hid hb2
  have HB2 := Lib.hid (HBA.out.trans (hbw2.mono (by omega)))
  have HS2 := Lib.hid (show w2.heap.size = z + 2 by omega)
  clear hb2 hbw2 hsz2 HC2 HBA HSA
  try clear wa
  have c1 := HBL2.out
  have HZZ := Lib.hid HZ.out
  go_wp2_with fail
  refine (kall_any g b L s w2 HL2.out HN.out).mono ?_
  rintro e w3 ⟨v, ks0, rfl, hp, ⟨ss, hss⟩, hrow, hb3⟩
  have HB3 := Lib.hid (HB2.out.trans (hb3.mono (by have := HS2.out; omega)))
  obtain ⟨A, n, c, rfl, hnk⟩ : ∃ A n c, v = .slice A n c ∧ n = ks0.length := by
    rcases hrow.2 with ⟨rfl, h0⟩ | ⟨gb, cap, cur, rfl, _⟩
    · exact ⟨none, 0, 0, rfl, h0.symm⟩
    · exact ⟨_, _, _, rfl, rfl⟩
  rw [← hnk] at hrow
  have HO3 := Lib.hid (show OwnP w3 w2.heap.size A n c ks0 from hrow)
  have HNK := Lib.hid (show n ≤ 1000000 by have h1 := hp.length_eq; rw [List.length_map, List.length_map] at h1; have := HN.out; omega)
  have HD := Lib.hid (show ∀ w', Below w2.heap.size w2 w' → ∀ x : PtS, Calls Try.prog 56 #[ptA x.1, .pointer (some ⟨z, 0, none⟩), .pointer (some ⟨z + 1, 0, none⟩)] w' fun e w'' => e = .returned (.bool ((fun x : PtS => !heldFor L id x.1) x)) ∧ Below w'.heap.size w' w'' from fun w' hb' x =>
    of1_any g b L s x.1 id z (z + 1) w' (HL2.out.call hb') x.2 HI.out (bcell hb' HBL2.out) (by rw [← HIE.out]; exact HBI2.out.call hb'))
  have HDE := Lib.hid (delf_any w2.heap.size w2 (Nat.le_refl _) z (z + 1) (fun x => !heldFor L id x.1) HD.out w3 hb3 HO3.out HNK.out)
  have HPP := Lib.hid hp; have HSS := Lib.hid hss
  have HB23 := Lib.hid hb3
  clear hp hss hrow hb3 hnk c1 HD HNK
  unfold ofV at HDE
  go_wp2_with fail
  refine HDE.out.mono ?_
  rintro e w4 ⟨m, rfl, ho4, hb4⟩
  have HO4 := Lib.hid ho4
  have HB4 := Lib.hid (HB2.out.trans (hb4.mono (by have := HS2.out; omega)))
  clear ho4 hb4 HDE
  go_wp2_with fail
  go_ret
  have hf : ks0.filter (fun x => !(!heldFor L id x.1)) = ks0.filter (fun x => heldFor L id x.1) := by simp
  have ho := HO4.out
  rw [hf] at ho
  refine ⟨A, m, c, ss, _, rfl, ?_, by rw [HSS.out], by rw [← HSS.out]; exact HPP.out, held_perm HPP.out HL2.out.ok.2, HB4.out⟩
  have := ho
  exact ⟨this.1, this.2.imp (fun h => h) (fun ⟨a, b', c', h1, h2, h3⟩ => ⟨a, b', c', h1, Nat.le_trans (by have := HS2.out; omega) h2, h3⟩)⟩
end Go.Proofs.Ytolbbhbfbpiljaa

/- The document's locks: Of; the law's own points. Printed by mkrle.py. -/
namespace Go.Proofs.Ytolbbhbfbpiljaa
open Go.RowKit Go.Maps Go.Sort Go.Shelf
set_option linter.unusedVariables false
/-- A row of outputs. -/
def RowPt (w : World) (A : Option Addr) (n : Nat) (l : List PtK) : Prop := Sl w w.heap.size 33 A n (l.flatMap ptV) ∧ (∀ p ∈ l, PtOK p) ∧ l.length = n
theorem RowPt.grow {w w' : World} {A : Option Addr} {n : Nat} {l : List PtK} (h : RowPt w A n l) (hb : Below w.heap.size w w') : RowPt w' A n l := ⟨(h.1.below hb).more hb.size, h.2⟩
theorem RowPt.at_ {w : World} {A : Option Addr} {n : Nat} {l : List PtK} (h : RowPt w A n l) {k : Nat} (hk : k < n) :
    ∃ b off p, A = some ⟨b, off, none⟩ ∧ b < w.heap.size ∧ l[k]? = some p ∧ PtOK p ∧ ∀ j u, (ptV p)[j]? = some u → w.cell? ⟨b, off + k * 33 + j, none⟩ = some u := by
  obtain ⟨hs, ho, hl⟩ := h
  obtain ⟨b, off, e, hb, hc⟩ := hs.2 (by omega)
  have hk2 : k < l.length := by omega
  refine ⟨b, off, l[k], e, hb, List.getElem?_eq_getElem hk2, ho _ (List.getElem_mem hk2), fun j u hu => ?_⟩
  have h2 := hc (k * 33 + j) u (fm_at3 ptV 33 l k j _ u (fun y hy => ptV_length (ho y hy).1) (List.getElem?_eq_getElem hk2) hu)
  rw [← Nat.add_assoc] at h2; exact h2
def OwnPt (w : World) (base : Nat) (A : Option Addr) (n c : Nat) (l : List PtK) : Prop := w.ownsRow base 52 33 (.slice A n c) n (l.flatMap ptV) ∧ ∀ p ∈ l, PtOK p
theorem fmP_len : ∀ {Y : List PtK}, (∀ e ∈ Y, PtOK e) → (Y.flatMap ptV).length = Y.length * 33
  | [], _ => rfl
  | e :: Y, h => by rw [List.flatMap_cons, List.length_append, ptV_length (h e (List.mem_cons_self ..)).1, fmP_len (fun x hx => h x (List.mem_cons_of_mem _ hx)), List.length_cons]; omega
theorem OwnPt.len {w : World} {base n c : Nat} {A : Option Addr} {Y : List PtK} (h : OwnPt w base A n c Y) : Y.length = n := by have h1 := h.1.1; rw [fmP_len h.2] at h1; omega
theorem OwnPt.row {w : World} {base n c : Nat} {A : Option Addr} {Y : List PtK} (h : OwnPt w base A n c Y) : RowPt w A n Y := ⟨Sl.of_own h.1, h.2, h.len⟩
theorem OwnPt.nil (w : World) (base : Nat) : OwnPt w base none 0 0 [] := ⟨⟨by simp, .inl ⟨rfl, rfl⟩⟩, by simp⟩
theorem OwnPt.grow {w w' : World} {base n c : Nat} {A : Option Addr} {Y : List PtK} (h : OwnPt w base A n c Y) (k : Grow w w') : OwnPt w' base A n c Y := ⟨own_below h.1 k, h.2⟩
theorem OwnPt.snoc {w' : World} {base n c' : Nat} {A' : Option Addr} {Y : List PtK} {e : PtK} (ho : w'.ownsRow base 52 33 (.slice A' (n + 1) c') (n + 1) (Y.flatMap ptV ++ ptV e)) (hy : ∀ e ∈ Y, PtOK e) (he : PtOK e) : OwnPt w' base A' (n + 1) c' (Y ++ [e]) :=
  ⟨by rw [List.flatMap_append, List.flatMap_cons, List.flatMap_nil, List.append_nil]; exact ho, fun x hx => by
    rcases List.mem_append.1 hx with hx | hx
    · exact hy x hx
    · rw [List.mem_singleton] at hx; subst hx; exact he⟩
theorem fmPt (ks : List PtS) : (ks.map (·.1)).flatMap ptV = ks.flatMap encPt := by rw [List.flatMap_map]; rfl
theorem OwnP.rowPt {w : World} {base n c : Nat} {A : Option Addr} {ys : List PtS} (h : OwnP w base A n c ys) : RowPt w A n (ys.map (·.1)) :=
  ⟨by rw [fmPt]; exact Sl.of_own h, fun p hp => by obtain ⟨x, _, rfl⟩ := List.mem_map.1 hp; exact x.2, by rw [List.length_map]; exact h.len⟩
def ofK (X : LocksL) (id : List UInt8) : List PtK := (X.filter fun e => decide (e.2.2 = id)).map (·.1)
theorem ofK_at (X : LocksL) (id : List UInt8) (k : Nat) {e : PtK × LockV} (he : X[k]? = some e) :
    (e.2.2 = id → ofK (X.take (k + 1)) id = ofK (X.take k) id ++ [e.1]) ∧ (e.2.2 ≠ id → ofK (X.take (k + 1)) id = ofK (X.take k) id) := by
  have h1 : X.take (k + 1) = X.take k ++ [e] := by rw [List.take_add_one, he]; rfl
  rw [h1]
  unfold ofK
  rw [List.filter_append, List.map_append]
  refine ⟨fun h => ?_, fun h => ?_⟩
  · rw [List.filter_cons_of_pos (by simpa using h)]; simp
  · rw [List.filter_cons_of_neg (by simpa using h)]; simp
theorem RelK.of_eq {X L : LocksL} {s : Int} (h : RelK X L s) {ks ss : List PtS} {id : List UInt8} (hk : ks = (sortP ss).filter (fun x => heldFor L id x.1)) (hp : ((sortP ss).map (·.1)).Perm (L.map (·.1))) : ks.map (·.1) = ofK X id := by
  have h1 := h.all hp rfl
  have e1 : ks.map (·.1) = ((sortP ss).map (·.1)).filter (heldFor L id) := by rw [hk, List.filter_map]; rfl
  rw [e1, h1]
  unfold ofK
  rw [List.filter_map]
  congr 1
  refine List.filter_congr fun e he => ?_
  show heldFor L id e.1 = decide (e.2.2 = id)
  unfold heldFor
  rw [lookL_mem (h.perm.mem_iff.1 he) h.ok.2]; rfl
theorem len_aid : (zidV).length = 32 := zidV_len
theorem aidV_cl {d : List UInt8} (h : d.length = 32) : Cl 32 (d.map B) := ⟨by rw [List.length_map, h], mapB_one d⟩
theorem encAtK_for0 {e : PtK × LockV} (h : AtOKK e) {j : Nat} {u : Value} (hu : (e.2.2.map B)[j]? = some u) : (encAtK e)[33 + j]? = some u :=
  encAtK_ref h (by unfold refV; rw [List.getElem?_append_left (List.getElem?_eq_some_iff.1 hu).1]; exact hu)
set_option maxRecDepth 100000 in
set_option maxHeartbeats 4000000 in
theorem rof21_any {A : Option Addr} {n c : Nat} {l : LocksL} (id : List UInt8) (w : World) (h : RowK w A n l) (hi : id.length = 32) (hn : n ≤ 1000000) :
    Calls Try.prog 40 #[.slice A n c, .agg (id.map B).toArray] w fun e w' => ∃ A' n' c', e = .returned (.slice A' n' c') ∧ RowPt w' A' n' (ofK l id) ∧ Below w.heap.size w w' := by
  have HH := Lib.hid h
  have HPC := Lib.hid (aidV_cl hi)
  have hl0 := h.2.2
  have HQQ := Lib.hid (fun (e : PtK × LockV) (he : AtOKK e) => idk_eq e.2.2 id he.2.2 hi)
  obtain ⟨rs, hrs⟩ : ∃ q, q = ofK l id := ⟨_, rfl⟩
  have HRS := Lib.hid hrs
  rw [← hrs]
  obtain ⟨xs, hxs⟩ : ∃ q, q = id.map B := ⟨_, rfl⟩
  rw [← hxs] at HPC HQQ ⊢
  obtain ⟨w_, hw⟩ : ∃ x, x = w := ⟨_, rfl⟩
  have HB := Lib.hid (show Below w.heap.size w w_ by rw [hw]; exact Below.refl _ _)
  suffices H : Calls Try.prog 40 #[.slice A n c, .agg xs.toArray] w_ (fun e w' => ∃ A' n' c', e = .returned (.slice A' n' c') ∧ RowPt w' A' n' rs ∧ Below w.heap.size w w') by rw [hw] at H; exact H
  clear hw h hi hrs hxs
  go_enter Try.func40, Try.ntmps40
  go_wp2_with (first | (with_reducible refine wpl_box (o := ⟨some 3, _, _, _, _, _⟩) rfl rfl rfl ?_))
  intro w2_ hb2_ hb_ hsz2_
  have HX_ := Lib.hid (at_mk hb2_ HPC.out.len)
  clear hb2_ hsz2_
  have HG_ := Lib.hid HB.out.size
  have HB_ := Lib.hid (HB.out.grow' hb_)
  clear HB
  have HB := HB_
  clear HB_
  generalize hg_ : w_.heap.size = g3 at HX_ HG_ ⊢
  clear hg_
  have HP_g := HG_
  clear HG_
  have HP := HX_
  clear hb_ HX_
  try clear w_
  rename World => w_
  obtain ⟨z0, hz0⟩ : ∃ z, z = w_.heap.size := ⟨_, rfl⟩
  have HP_z := Lib.hid (show g3 < z0 by rw [hz0]; exact HP.out.lt)
  have HZ0 := Lib.hid (show w.heap.size ≤ z0 by rw [hz0]; exact HB.out.size)
  have HZL := Lib.hid (show z0 ≤ w_.heap.size by rw [hz0]; exact Nat.le_refl _)
  clear hz0
  go_wp2_with fail
  go_loopw [5, 6] (fun s5 iv wr => ∃ (k m : Nat) (A4 : Option Addr) (c4 : Nat), k ≤ n ∧ m ≤ k ∧ iv = .int .i64 k ∧ s5 = .slice A4 m c4 ∧ Hid (OwnPt wr z0 A4 m c4 (ofK (l.take k) id) ∧ At wr g3 29 32 xs ∧ Below w.heap.size w wr ∧ z0 ≤ wr.heap.size)) (fun _ iv _ => n - (intOf iv).toNat)
  case atStart => exact ⟨0, 0, none, 0, by omega, by omega, rfl, rfl, Lib.hid ⟨OwnPt.nil _ _, HP.out, HB.out, HZL.out⟩⟩
  case round =>
    obtain ⟨k, m, A4, c4, hk, hm, rfl, rfl, hI⟩ := hrel
    clear HP HB HZL
    obtain ⟨Y, hY⟩ : ∃ Y, Y = ofK (l.take k) id := ⟨_, rfl⟩
    have HY := Lib.hid hY
    have HO := Lib.hid (show OwnPt wr z0 A4 m c4 Y by rw [hY]; exact hI.out.1); have HP := Lib.hid hI.out.2.1; have HB := Lib.hid hI.out.2.2.1; have HZL := Lib.hid hI.out.2.2.2
    clear hI hY
    rename World => w_
    by_cases hlt : k < n
    · obtain ⟨b, off, e, rfl, hbl, he, hok, hcc⟩ := HH.out.at_ hlt
      have HOK := Lib.hid hok.1
      have HIA := Lib.hid (ofK_at l id k he)
      have HMC := Lib.hid (fun w' (hb : Below w.heap.size w w') => show MidAt w' b (off + k * 98) (encAtK e) from fun j u hu => (hb.cell (p := ⟨b, off + k * 98 + j, none⟩) hbl).trans (hcc j u hu))
      have HEC := Lib.hid (ptV_cl hok.1)
      have HEP := Lib.hid (fun j u (hu : (ptV e.1)[j]? = some u) => encAtK_pt hok hu)
      have HEF := Lib.hid (fun j u (hu : (e.2.2.map B)[j]? = some u) => encAtK_for0 hok hu)
      have HFC := Lib.hid (aidV_cl hok.2.2)
      have HQ := Lib.hid (HQQ.out e hok)
      obtain ⟨r, hr⟩ : ∃ r, r = decide (e.2.2 = id) := ⟨_, rfl⟩
      rw [← hr] at HQ
      have HRR := Lib.hid hr
      obtain ⟨fs, hfs⟩ : ∃ q, q = e.2.2.map B := ⟨_, rfl⟩
      rw [← hfs] at HEF HFC HQ
      obtain ⟨es, hes⟩ : ∃ q, q = ptV e.1 := ⟨_, rfl⟩
      have HUE := Lib.hid hes
      rw [← hes] at HEP HEC
      obtain ⟨us, hus⟩ : ∃ q, q = encAtK e := ⟨_, rfl⟩
      rw [← hus] at HMC HEF HEP
      clear he hok hcc hr hes hus hbl hfs
      have HML := Lib.hid (show ∀ w', Below w_.heap.size w_ w' → MidAt w' b (off + k * 98 + 33) fs from fun w' hb j u hu => by
        have h1 := HMC.out w' (HB.out.grow' hb) (33 + j) u (HEF.out j u hu)
        rwa [← Nat.add_assoc] at h1)
      go_wp2_with fail
      repeat' (first | (with_reducible refine wp_phase (id := 5) (fun (_ : Nat) w' => Below w_.heap.size w_ w') [] [(0,0),(0,0),(0,0),(0,0),(0,0),(0,0),(0,0)] (by kernel_rfl) (by kernel_rfl) ?_ ?_) | go_values | go_skip | go_guarded | go_step | go_upon | go_back)
      · exact Drawn.all (Drawn.one w_)
      refine ph_value rfl (by first | rfl | go_simp) (fun k_ _ _ w_ hC_ => by first | (go_simp; rfl) | (go_simp; done) | rfl) (fun K hK => ?_)
      go_simp
      refine hK _ ?_
      clear hK K
      refine ph_value rfl (by first | rfl | go_simp) (fun k_ _ _ w_ hC_ => by first | (go_simp; rfl) | (go_simp; done) | rfl) (fun K hK => ?_)
      go_simp
      refine hK _ ?_
      clear hK K
      refine ph_value rfl (by first | rfl | go_simp) (fun k_ _ _ w_ hC_ => by first | (go_simp; rfl) | (go_simp; done) | rfl) (fun K hK => ?_)
      go_simp
      refine hK _ ?_
      clear hK K
      refine ph_value rfl (by first | rfl | go_simp) (fun k_ _ _ w_ hC_ => by first | (go_simp; rfl) | (go_simp; done) | rfl) (fun K hK => ?_)
      go_simp
      refine hK _ ?_
      clear hK K
      refine ph_loadmk rfl (by first | rfl | go_simp) rfl row_idk (fun k _ _ w h j u hu => HML.out w h j u hu) (by first | rfl | (go_simp; done)) HFC.out.len ?_
      (intro K hK; go_simp; refine hK _ ?_; clear hK K)
      refine ph_load rfl (by first | rfl | go_simp) rfl row_idk (fun k _ _ w h => HP.out.blk.call h) rfl HPC.out.len ?_
      (intro K hK; go_simp; refine hK _ ?_; clear hK K)
      have heq := HQ.out
      refine ph_value rfl (by first | rfl | go_simp) (fun k_ _ _ w_ hC_ => by first | (go_simp; rfl) | (go_simp; done) | rfl) (fun K hK => ?_)
      go_simp
      refine hK _ ?_
      clear hK K
      clear heq
      refine ph_nil ?_
      intro w3_ hb_
      replace HP := Lib.hid (HP.out.grow hb_); replace HO := Lib.hid (HO.out.grow hb_)
      replace HB := Lib.hid (HB.out.grow' hb_)
      replace HZL := Lib.hid (Nat.le_trans HZL.out hb_.size)
      clear hb_ HML
      try clear w_
      rename World => w_
      cases r with
      | false =>
        have HE1 := Lib.hid (show ofK (l.take (k + 1)) id = Y by rw [HIA.out.2 (of_decide_eq_false HRR.out.symm), ← HY.out])
        go_wp2_with fail
        go_roundw
        case rel => exact ⟨k + 1, m, A4, c4, by omega, by omega, by go_num, rfl, Lib.hid ⟨by rw [HE1.out]; exact HO.out, HP.out, HB.out, HZL.out⟩⟩
        case measure => simp [intOf]; omega
      | true =>
        have HE1 := Lib.hid (show ofK (l.take (k + 1)) id = Y ++ [e.1] by rw [HIA.out.1 (of_decide_eq_true HRR.out.symm), ← HY.out])
        have HM_ := Lib.hid (show ∀ j u, es[j]? = some u → w_.cell? ⟨b, off + k * 98 + j, none⟩ = some u from fun j u hu => by
          have h1 := HMC.out w_ HB.out (0 + j) u (HEP.out j u hu)
          rwa [Nat.zero_add] at h1)
        go_wp2_with (first | (with_reducible refine wpl_loadm (o := ⟨some 25, _, _, _, _, _⟩) rfl rfl row_point HM_.out rfl HEC.out.len ?_) | (with_reducible refine wpl_row1 (o := ⟨some 26, .buildSlice _ _ _, _, _, _, _⟩) rfl rfl el_pt rfl HEC.out.len (by decide) ?_))
        intro w2_ hr_ hb_ hs3_
        have HROW := Lib.hid (hr_.sl (sz := 33) (n := 1) (by rw [HEC.out.len]))
        replace HP := Lib.hid (HP.out.grow hb_)
        replace HO := Lib.hid (HO.out.grow hb_)
        replace HB := Lib.hid (HB.out.grow' hb_)
        replace HZL := Lib.hid (Nat.le_trans HZL.out hb_.size)
        generalize w_.heap.size = q6 at HROW ⊢
        clear hr_ hb_ hs3_ HM_
        try clear w_
        rename World => w_
        have HNE := Lib.hid (show ∀ b, b < z0 → some b ≠ A4.map Addr.block from fun b hb e => by have := own_from HO.out.1 b e.symm; omega)
        go_wp2_with (first | (at_builtin; refine wpl_apps rfl rfl el_pt HO.out.1 rfl HROW.out rfl HEC.out.one (by omega) (by omega) HZL.out ?_))
        intro A7 c7 w2_ ho_ hg_ hA_
        replace HP := Lib.hid (at_mk (HP.out.blk.grown hg_ (HNE.out _ HP_z.out)) HP.out.len)
        replace HB := Lib.hid (show Below w.heap.size w w2_ from HB.out.grown hg_ HB.out.size (fun q hq => Nat.le_trans HZ0.out (own_from HO.out.1 q hq)))
        replace HZL := Lib.hid (Nat.le_trans HZL.out hg_.size)
        replace HO := Lib.hid (show OwnPt w2_ z0 A7 (m + 1) c7 (Y ++ [e.1]) from OwnPt.snoc (by rw [← HUE.out]; exact ho_) HO.out.2 HOK.out)
        clear ho_ hg_ hA_ HNE HROW
        try clear w_
        rename World => w_
        go_wp2_with fail
        go_roundw
        case rel => exact ⟨k + 1, m + 1, A7, c7, by omega, by omega, by go_num, rfl, Lib.hid ⟨by rw [HE1.out]; exact HO.out, HP.out, HB.out, HZL.out⟩⟩
        case measure => simp [intOf]; omega
    · obtain rfl : k = n := by omega
      have HT := Lib.hid (show l.take k = l from List.take_of_length_le (by omega))
      have HE1 := Lib.hid (show rs = Y by rw [HRS.out, HY.out, HT.out])
      go_wp2_with fail
      go_ret
      exact ⟨A4, m, c4, rfl, by rw [HE1.out]; exact HO.out.row, HB.out⟩
set_option maxRecDepth 100000 in
set_option maxHeartbeats 2000000 in
theorem points_any {A A2 : Option Addr} {n c n2 c2 : Nat} {l : List PtK} (w : World) (h : RowPt w A n l) (h2 : RowPt w A2 n2 l) (hn : n ≤ 1000000) :
    Calls Try.prog 39 #[.slice A n c, .slice A2 n2 c2] w fun e w' => e = .returned (.bool true) ∧ Below w.heap.size w w' := by
  obtain rfl : n = n2 := by rw [← h.2.2, ← h2.2.2]
  have HH := Lib.hid h; have HH2 := Lib.hid h2
  have z1 : ((n : Int) != (n : Int)) = false := by simp
  clear h h2
  obtain ⟨w_, hw⟩ : ∃ x, x = w := ⟨_, rfl⟩
  have HB := Lib.hid (show Below w.heap.size w w_ by rw [hw]; exact Below.refl _ _)
  suffices H : Calls Try.prog 39 #[.slice A n c, .slice A2 n c2] w_ (fun e w' => e = .returned (.bool true) ∧ Below w.heap.size w w') by rw [hw] at H; exact H
  clear hw
  go_enter Try.func39, Try.ntmps39
  go_wp2_with fail
  go_loopw [5] (fun iv wr => ∃ (k : Nat), k ≤ n ∧ iv = .int .i64 k ∧ Hid (Below w.heap.size w wr)) (fun iv _ => n - (intOf iv).toNat)
  case atStart => exact ⟨0, by omega, rfl, HB⟩
  case round =>
    obtain ⟨k, hk, rfl, hI⟩ := hrel
    clear HB
    have HB := hI
    clear hI
    rename World => w_
    by_cases hlt : k < n
    · obtain ⟨b, off, p, rfl, hbl, he, hok, hcc⟩ := HH.out.at_ hlt
      obtain ⟨b2, off2, p2, rfl, hbl2, he2, hok2, hcc2⟩ := HH2.out.at_ hlt
      obtain rfl : p = p2 := Option.some.inj (he.symm.trans he2)
      have HM1 := Lib.hid (show ∀ w', Below w_.heap.size w_ w' → MidAt w' b (off + k * 33) (ptV p) from fun w' hb j u hu => ((HB.out.grow' hb).cell (p := ⟨b, off + k * 33 + j, none⟩) hbl).trans (hcc j u hu))
      have HM2 := Lib.hid (show ∀ w', Below w_.heap.size w_ w' → MidAt w' b2 (off2 + k * 33) (ptV p) from fun w' hb j u hu => ((HB.out.grow' hb).cell (p := ⟨b2, off2 + k * 33 + j, none⟩) hbl2).trans (hcc2 j u hu))
      have HEC := Lib.hid (ptV_cl hok)
      have HQ := Lib.hid (pt_self p hok)
      obtain ⟨es, hes⟩ : ∃ q, q = ptV p := ⟨_, rfl⟩
      rw [← hes] at HM1 HM2 HEC HQ
      clear he hok hcc he2 hok2 hcc2 hbl hbl2 hes
      go_wp2_with fail
      repeat' (first | (with_reducible refine wp_phase (id := 6) (fun (_ : Nat) w' => Below w_.heap.size w_ w') [] [(0,0),(0,0),(0,0),(0,0),(0,0),(0,0),(0,0),(0,0),(0,0)] (by kernel_rfl) (by kernel_rfl) ?_ ?_) | go_values | go_skip | go_guarded | go_step | go_upon | go_back)
      · exact Drawn.all (Drawn.one w_)
      refine ph_value rfl (by first | rfl | go_simp) (fun k_ _ _ w_ hC_ => by first | (go_simp; rfl) | (go_simp; done) | rfl) (fun K hK => ?_)
      go_simp
      refine hK _ ?_
      clear hK K
      refine ph_value rfl (by first | rfl | go_simp) (fun k_ _ _ w_ hC_ => by first | (go_simp; rfl) | (go_simp; done) | rfl) (fun K hK => ?_)
      go_simp
      refine hK _ ?_
      clear hK K
      refine ph_value rfl (by first | rfl | go_simp) (fun k_ _ _ w_ hC_ => by first | (go_simp; rfl) | (go_simp; done) | rfl) (fun K hK => ?_)
      go_simp
      refine hK _ ?_
      clear hK K
      refine ph_loadmk rfl (by first | rfl | go_simp) rfl row_point (fun k _ _ w h j u hu => HM1.out w h j u hu) (by first | rfl | (go_simp; done)) HEC.out.len ?_
      (intro K hK; go_simp; refine hK _ ?_; clear hK K)
      refine ph_value rfl (by first | rfl | go_simp) (fun k_ _ _ w_ hC_ => by first | (go_simp; rfl) | (go_simp; done) | rfl) (fun K hK => ?_)
      go_simp
      refine hK _ ?_
      clear hK K
      refine ph_value rfl (by first | rfl | go_simp) (fun k_ _ _ w_ hC_ => by first | (go_simp; rfl) | (go_simp; done) | rfl) (fun K hK => ?_)
      go_simp
      refine hK _ ?_
      clear hK K
      refine ph_value rfl (by first | rfl | go_simp) (fun k_ _ _ w_ hC_ => by first | (go_simp; rfl) | (go_simp; done) | rfl) (fun K hK => ?_)
      go_simp
      refine hK _ ?_
      clear hK K
      refine ph_loadmk rfl (by first | rfl | go_simp) rfl row_point (fun k _ _ w h j u hu => HM2.out w h j u hu) (by first | rfl | (go_simp; done)) HEC.out.len ?_
      (intro K hK; go_simp; refine hK _ ?_; clear hK K)
      have heq := HQ.out
      refine ph_value rfl (by first | rfl | go_simp) (fun k_ _ _ w_ hC_ => by first | (go_simp; rfl) | (go_simp; done) | rfl) (fun K hK => ?_)
      go_simp
      refine hK _ ?_
      clear hK K
      clear heq
      refine ph_nil ?_
      intro w3_ hb_
      replace HB := Lib.hid (HB.out.grow' hb_)
      clear hb_ HM1 HM2
      try clear w_
      rename World => w_
      go_wp2_with fail
      go_roundw
      case rel => exact ⟨k + 1, by omega, by go_num, HB⟩
      case measure => simp [intOf]; omega
    · obtain rfl : k = n := by omega
      go_wp2_with fail
      go_ret
      exact ⟨rfl, HB.out⟩
end Go.Proofs.Ytolbbhbfbpiljaa

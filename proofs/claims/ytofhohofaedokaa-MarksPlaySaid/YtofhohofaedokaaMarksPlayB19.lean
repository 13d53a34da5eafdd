/- The contract of marks.Put1. Printed by mkmsc.py. -/
import Derived.Test.YtofhohofaedokaaMarksPlayB18
import Derived.Test.YtofhohofaedokaaMarksPlayB17
import Derived.Test.YtofhohofaedokaaRows
import Derived.Test.YtofhohofaedokaaMarksPlayB6
import Derived.Test.YtofhohofaedokaaMarksPlayB2
set_option linter.unusedSimpArgs false
/- The contract of marks.Put1. Printed by mkmsc.py. -/
namespace Go.Proofs.Ytofhohofaedokaa
open Go.RowKit
set_option linter.unusedVariables false
theorem own_ks {w w' : World} {gp z1 z2 z n c : Nat} {A : Option Addr} {xs : List Value} (ho : OwnAt w z A n c xs) (hk : Kept (KS gp z1 z2 z w.heap.size) w w') : Sl w' w'.heap.size 1 A n xs := by
  have h := Sl.of_own ho
  refine ⟨h.1, fun hn => ?_⟩
  obtain ⟨b, off, e, hb, hc⟩ := h.2 hn
  have h1 : z ≤ b := own_from ho b (by rw [e]; rfl)
  exact ⟨b, off, e, Nat.lt_of_lt_of_le hb hk.size, fun j u hu => (World.cell?_of_block (a := ⟨b, off + j, none⟩) (hk.block b (.inr ⟨h1, hb⟩))).trans (hc j u hu)⟩
theorem mkV_cl {k : MKey} (h : MKOK k) : Cl 33 (mkV k) := ⟨mkV_length h, fun u hu => encKey_one ⟨k, h⟩ u hu⟩
theorem zero_mkey : (Try.prog.info? 64).map (·.zero) = some (some (.agg (mkV (0, List.replicate 32 0)).toArray)) := by kernel_rfl
theorem len_mkey : (mkV (0, List.replicate 32 0)).length = 33 := by simp [mkV]
theorem mkV_id {k : MKey} {j : Nat} {u : Value} (hu : (k.2.map B)[j]? = some u) : (mkV k)[1 + j]? = some u := by unfold mkV; rw [Nat.add_comm, List.getElem?_cons_succ]; exact hu
theorem lookM_in {L : MarksL} {p : MKey} {m : Mrk} (h : lookM L p = some m) : (p, m) ∈ L := by
  unfold lookM at h
  obtain ⟨e, he, rfl⟩ := Option.map_eq_some_iff.1 h
  have h1 := List.mem_of_find?_eq_some he
  have h2 : e.1 = p := by simpa using List.find?_some he
  rw [← h2]; exact h1
/-- What the document's k-th mark is in the program's map. -/
theorem RelM.at_ {w : World} {L l : MarksL} {XL X : XMk} (h : RelM w L l XL X) (hl : LMOK L) {k : Nat} {p : MKey × AMk} (hp : X[k]? = some p) : ∃ m ds, lookM L p.1 = some m ∧ PathAt w m ds ∧ p.2 = absM m ds ∧ MKOK p.1 ∧ m.ok ∧ InOKM (p.1, m) := by
  have hm := List.mem_of_getElem? hp
  have hx : lookX XL p.1 = some p.2 := by rw [← lookX_perm h.perm h.ndL]; exact lookX_eq (sortX_nodup h.sort) hm
  rcases h.pl.look p.1 with ⟨_, a2⟩ | ⟨m, ds, a1, a2, a3⟩
  · rw [a2] at hx; cases hx
  · have hin := lookM_in a1
    have hok := hl.1 _ hin
    rw [a3] at hx
    injection hx with hx
    exact ⟨m, ds, a1, a2, hx.symm, hok.1, hok.2, h.pl.okM (fun x hx => h.ok x (h.perm.mem_iff.2 hx)) _ hin⟩
theorem MarksAt.keptK {K : Nat → Prop} {w w' : World} {g b : Nat} {L : MarksL} (h : MarksAt w g b L) (k : Kept K w w') (h1 : K g) (h2 : K b) : MarksAt w' g b L := by
  obtain ⟨q1, ⟨es, clock, q2, q3, q4⟩, q5, q6⟩ := h
  exact ⟨k.blk q1 h1, ⟨es, clock, (k.block b h2).trans q2, q3, q4⟩, q5, q6⟩
set_option maxRecDepth 100000 in
set_option maxHeartbeats 8000000 in
theorem mput1_any (g b gp : Nat) (L l : MarksL) (XL X : XMk) (w0 w : World) (h : MarksAt w g b L) (hr : RelM w0 L l XL X) (hw : Below w0.heap.size w0 w) (hs : w0.heap.size ≤ gp) (hp : PenAt w (KR gp 0 0) gp []) (hg : g < gp) (hb : b < gp) :
    Calls Try.prog 26 #[.pointer (some ⟨g, 0, none⟩), .pointer (some ⟨gp, 0, none⟩)] w fun e w' => e = .returned (.tuple #[]) ∧ PenAt w' (KR gp 0 0) gp (bytesM X) ∧ (bytesM X).length ≤ 300000 ∧ Below gp w w' := by
  obtain ⟨n, hn⟩ : ∃ n, n = L.length := ⟨_, rfl⟩
  have hn128 : n ≤ 128 := by rw [hn]; have := hr.lens; omega
  have hXn : X.length = n := by rw [hn]; have := hr.lens; omega
  have HPT := Lib.hid (show bytesM X = numB n ++ X.flatMap putMk by unfold bytesM; rw [hXn])
  have HR := Lib.hid hr; have HP := Lib.hid hp; have HC := Lib.hid h; have HWW := Lib.hid hw; have HSS := Lib.hid hs
  have HGB := Lib.hid (show KR gp 0 0 g ∧ KR gp 0 0 b from ⟨.inl hg, .inl hb⟩)
  have e0 : ∀ es : Array MapEntry, kvs es = encM L → es.size = n := fun es h5 => by rw [← kvs_length, h5]; simp [encM, hn]
  obtain ⟨es0, clock0, h3, h4, h5⟩ := h.map
  have e1 := e0 es0 h5
  have hl := fun ty => run_len_map w 58 ty b es0 clock0 Try.underlying58 h3
  simp only [e1] at hl
  have c1 : w.cell? ⟨g, 0, none⟩ = some (.map (some b)) := h.blk.at_ rfl
  have HNE := Lib.hid hn
  clear h hr hp h3 h4 h5 e0 e1 hn hw hs
  have q1 := conv_u64' (n := n) (by omega)
  obtain ⟨out, hout⟩ : ∃ q, q = bytesM X := ⟨_, rfl⟩
  rw [← hout] at HPT ⊢
  clear hout
  go_enter Try.func26, Try.ntmps26
  go_wp2_with fail
  refine (num_any gp n (KR gp 0 0) [] _ HP.out (by simp) (by omega)).mono ?_
  rintro e w1 ⟨rfl, hp_, hk_⟩
  have HP1 := Lib.hid (show PenAt w1 (KR gp 0 0) gp (numB n) from hp_)
  have HK1 := Lib.hid hk_
  have HC1 := Lib.hid (HC.out.keptK hk_ HGB.out.1 HGB.out.2)
  clear hp_ hk_ HP HC hl c1 q1
  have HALL := Lib.hid (mkeys_any g b L w1 HC1.out (by rw [← HNE.out]; omega))
  go_wp2_with fail
  refine HALL.out.mono ?_
  rintro e w2 ⟨v, ks, rfl, hperm, ⟨ss, hss⟩, hrow, hb2⟩
  have hkx := HR.out.all hperm hss
  have hkl : ks.length = n := by have := congrArg List.length hkx; rw [List.length_map, List.length_map, hXn] at this; exact this
  obtain ⟨A, c, rfl, hkr⟩ := krow_of hrow
  rw [hkl]
  have HKX := Lib.hid hkx
  obtain ⟨z1, hz1⟩ : ∃ z, z = w1.heap.size := ⟨_, rfl⟩
  obtain ⟨z2, hz2⟩ : ∃ z, z = w2.heap.size := ⟨_, rfl⟩
  rw [← hz1] at hkr
  have HV := Lib.hid hkr
  have HKL := Lib.hid hkl
  have HGZ := Lib.hid (show gp < z1 by rw [hz1]; exact HP1.out.lt)
  have HP2 := Lib.hid (show PenAt w2 (KR gp z1 z2) gp (numB n) from HP1.out.more hb2 (fun j hj => by
    rcases hj with h | h
    · exact .inl (.inl h)
    · exact .inr (by rw [← hz1, ← hz2]; exact h)))
  have HK2 := Lib.hid (show Below gp w w2 from (HK1.out.below (fun j hj => .inl hj)).trans (hb2.mono (by rw [← hz1]; have := HGZ.out; omega)))
  have HC2 := Lib.hid (HC1.out.call hb2)
  have HZ2 := Lib.hid (show z2 = w2.heap.size from hz2)
  have HZ12 := Lib.hid (show z1 ≤ z2 by rw [hz1, hz2]; exact hb2.size)
  clear hperm hss hrow hb2 hkx hkl hkr hz1 hz2 HP1 HK1 HC1 HALL
  have HQ0 := Lib.hid (show numB n = numB n ++ (X.take 0).flatMap putMk by simp)
  have HKQ0 := Lib.hid (Kept.refl (KR gp z1 z2) w2)
  go_wp2_with fail
  go_loopw [18] (fun iv wr => ∃ k : Nat, k ≤ n ∧ iv = .int .i64 k ∧ Hid (∃ acc : List UInt8, PenAt wr (KR gp z1 z2) gp acc ∧ acc.length ≤ 9 + k * 2100 ∧ acc = numB n ++ (X.take k).flatMap putMk ∧ Kept (KR gp z1 z2) w2 wr)) (fun iv _ => n - (intOf iv).toNat)
  case atStart => exact ⟨0, by omega, rfl, Lib.hid ⟨numB n, HP2.out, by have := numB_le (n := n) (by omega); omega, HQ0.out, HKQ0.out⟩⟩
  case round =>
    obtain ⟨k, hk, rfl, hI⟩ := hrel
    clear HP2 HQ0 HKQ0
    obtain ⟨acc, hpn, hal, hac, hkq⟩ := hI.out
    have HP := Lib.hid hpn; have HAC := Lib.hid hac; have HKQ := Lib.hid hkq
    clear hI hpn hac hkq
    rename World => w_
    by_cases hlt : k < n
    · obtain ⟨x, hx⟩ : ∃ x, ks[k]? = some x := ⟨_, List.getElem?_eq_getElem (by have := HKL.out; omega)⟩
      obtain ⟨p, hp⟩ : ∃ p, X[k]? = some p := ⟨_, List.getElem?_eq_getElem (by omega)⟩
      have hxp : x.1 = p.1 := by
        have h1 := congrArg (fun l => l[k]?) HKX.out
        simp only [List.getElem?_map, hx, hp, Option.map_some] at h1
        exact Option.some.inj h1
      have HSN := Lib.hid (fm_snocR putMk hp)
      obtain ⟨m, ds, hlk, hpa, habs, hmk, hmok, hin⟩ := HR.out.at_ HC2.out.ok hp
      obtain ⟨hpart, hright⟩ := hin
      obtain ⟨r1, r2, r3⟩ := right_parts hright
      obtain ⟨ix, hix1, hixl, hix2⟩ := natI (z := p.1.1) (m := 1) (by have : p.1.1 = 0 ∨ p.1.1 = 1 := hpart; omega) (by have : p.1.1 = 0 ∨ p.1.1 = 1 := hpart; omega)
      obtain ⟨ex, hex1, hexl, hex2⟩ := natI (z := m.expiry) (m := 1099511627776) r2 (by have : m.expiry ≤ 1099511627776 := r3; omega)
      have hcok : (cerM m ds).ok := cerM_ok hmok hpa.2.2.1
      have hpl : (cerM m ds).path.length = m.pn := hpa.2.1
      have HRC := Lib.hid (fun (w' : World) (hb : Grow w0 w') => cputo_any w' hcok (by have : m.pn ≤ 32 := r1; omega) (hpa.grow hb))
      obtain ⟨cb, hcb⟩ : ∃ q, q = putCB (cerM m ds) := ⟨_, rfl⟩
      have hcl : cb.length ≤ 2000 := by rw [hcb]; exact putCB_leM hcok (by have : m.pn ≤ 32 := r1; omega)
      rw [← hcb] at HRC
      obtain ⟨tx, htx⟩ : ∃ q, q = p.1.2 := ⟨_, rfl⟩
      have HPI := Lib.hid (show putMk p = numB ix ++ tx ++ numB ex ++ numB cb.length ++ cb by unfold putMk; rw [habs, hix2, ← htx]; unfold absM; rw [hex2, ← hcb])
      have HDT := Lib.hid (show Dig (tx.map B) tx from ⟨rfl, by rw [htx]; exact hmk.2⟩)
      have HPC := Lib.hid (mkV_cl hmk); have HCC := Lib.hid (mark_cl hmok)
      have HE0 := Lib.hid (show (mkV p.1)[0]? = some (.int .i64 (ix : Int)) by rw [← hix1]; rfl)
      have HC137 := Lib.hid (show (markV m)[137]? = some (.int .i64 (ex : Int)) by rw [mark_exp hmok, hex1])
      have HET := Lib.hid (show ∀ j u, (tx.map B)[j]? = some u → (mkV p.1)[1 + j]? = some u from fun j u hu => mkV_id (by rw [← htx]; exact hu))
      have HEC := Lib.hid (show ∀ j u, (certV (.slice m.pA m.pn m.pc) (cerM m ds))[j]? = some u → (markV m)[0 + j]? = some u from fun j u hu => mark_cert hu)
      have LCV := Lib.hid (certV_len (v := .slice m.pA m.pn m.pc) hcok)
      obtain ⟨cv, hcv⟩ : ∃ q, q = certV (.slice m.pA m.pn m.pc) (cerM m ds) := ⟨_, rfl⟩
      have HRC2 := Lib.hid (show ∀ (w' : World) (hb : Grow w0 w'), Calls Try.prog 45 #[.agg cv.toArray] w' fun e w2 => ∃ A' c', e = .returned (.slice A' cb.length c') ∧ OwnAt w2 w'.heap.size A' cb.length c' (cb.map B) ∧ cb.length ≤ c' ∧ Below w'.heap.size w' w2 from fun w' hb => by rw [hcv]; exact HRC.out w' hb)
      rw [← hcv] at HEC LCV
      obtain ⟨cl, hcl'⟩ : ∃ q, q = cb.length := ⟨_, rfl⟩
      rw [← hcl'] at HRC2 hcl
      have HCL := Lib.hid hcl'
      have HLK := Lib.hid (show ∀ w', MarksAt w' g b L → (Instr.lookup 58 (.map (some b)) (.agg (mkV p.1).toArray) false).run Try.prog w' = .ok (.agg (markV m).toArray) w' from fun w' h' => by
        obtain ⟨c', _, e2, h2⟩ := h'.look0 hmk
        rw [hlk] at e2
        have : c' = m := e2
        rw [this] at h2
        exact h2)
      obtain ⟨g0, hA, hgz, hgw, hcell⟩ := HV.out k x hx
      subst hA
      have HMC := Lib.hid (show ∀ j u, (mkV p.1)[j]? = some u → w_.cell? ⟨g0, k * 33 + j, none⟩ = some u from fun j u hu => by
        have h1 := hcell j u (by unfold encKey; rw [hxp]; exact hu)
        exact (World.cell?_of_block (a := ⟨g0, k * 33 + j, none⟩) (HKQ.out.block g0 (.inr ⟨hgz, by rw [HZ2.out]; exact hgw⟩))).trans h1)
      obtain ⟨es, hes⟩ : ∃ q, q = mkV p.1 := ⟨_, rfl⟩
      obtain ⟨cs, hcs⟩ : ∃ q, q = markV m := ⟨_, rfl⟩
      rw [← hes] at HPC HE0 HET HLK HMC
      rw [← hcs] at HCC HC137 HEC HLK
      obtain ⟨tb, htb⟩ : ∃ q, q = tx.map B := ⟨_, rfl⟩
      rw [← htb] at HDT HET
      clear hx hp hxp hlk hpa habs hmk hmok hpart hright r1 r2 r3 hix1 hix2 hex1 hex2 hcok hpl hcb htx hcv hes hcs htb hcell hgz hgw HRC hcl'
      have hlix := numB_le (n := ix) (by omega); have hlex := numB_le (n := ex) (by omega); have hlcl := numB_le (n := cl) (by omega)
      have htl : tx.length = 32 := HDT.out.2
      have HCW := Lib.hid (show MarksAt w_ g b L from HC2.out.keptK HKQ.out (.inl hg) (.inl hb))
      have HW0 := Lib.hid (show Below w0.heap.size w0 w_ from HWW.out.trans ((HK2.out.trans (HKQ.out.below (fun j hj => .inl hj))).mono HSS.out))
      have hwz : z2 ≤ w_.heap.size := by rw [HZ2.out]; exact HKQ.out.size
      have HWZ := Lib.hid hwz
      obtain ⟨wq, hwq⟩ : ∃ q, q = w_ := ⟨_, rfl⟩
      have HB := Lib.hid (show Below wq.heap.size wq w_ by rw [hwq]; exact Below.refl _ _)
      rw [← hwq] at HP HKQ HWZ HW0
      clear hwq hwz
      go_wp2_with (first | (with_reducible refine wpl_loadm (o := ⟨some 21, _, _, _, _, _⟩) rfl rfl row_mkey HMC.out rfl HPC.out.len ?_) | (with_reducible refine wpl_alloc (o := ⟨some 5, _, _, _, _, _⟩) rfl rfl zero_mkey ?_))
      intro w1_ hb1_ hbw1_ hsz1_
      have HB1_ := Lib.hid (at_mk hb1_ len_mkey)
      have HBW1_ := Lib.hid hbw1_
      have HZ1_ := Lib.hid hsz1_
      clear hb1_ hbw1_ hsz1_
      go_wp2_with (first | (with_reducible refine wpl_storeb (o := ⟨none, .store _ _ _, _, _, _, _⟩) rfl rfl row_mkey HB1_.out.blk rfl rfl HB1_.out.len HPC.out.len HPC.out.one ?_))
      intro w2_ hb2_ hg2_ hsz2_
      have HG_ := Lib.hid HB.out.size
      have hb_ := var_grow HBW1_.out HZ1_.out hg2_
      have HX_ := Lib.hid (at_mk hb2_ HPC.out.len)
      clear hb2_ hg2_ hsz2_ HB1_ HBW1_ HZ1_
      have HB_ := Lib.hid (HB.out.grow' hb_)
      clear HB
      have HB := HB_
      clear HB_
      have HCW_ := Lib.hid (HCW.out.grow hb_)
      clear HCW
      have HCW := HCW_
      clear HCW_
      generalize hg_ : w_.heap.size = g5 at HX_ HG_ ⊢
      clear hg_
      have HE := HX_
      clear hb_ HX_
      clear w1_
      try clear w_
      rename World => w_
      have HE_g := HG_
      clear HG_
      clear HMC
      have HEG := Lib.hid (show wq.heap.size ≤ g5 ∧ g5 < w_.heap.size from ⟨HE_g.out, HE.out.lt⟩)
      obtain ⟨g6, hg6⟩ : ∃ q, q = w_.heap.size := ⟨_, rfl⟩
      go_wp2_with fail
      repeat' (first | (with_reducible refine wp_phase (id := 4) (newC w_ 38 (markV noMrk) cs) [6, 7] [(0,2),(0,2),(0,2),(0,2),(0,2),(0,2),(0,0),(1,1)] (by kernel_rfl) (by kernel_rfl) ?_ ?_) | go_values | go_skip | go_guarded | go_step | go_upon | go_back)
      · exact newC.start
      have HF := Lib.hid (show ∀ k w', newC w_ 38 (markV noMrk) cs k w' → w'.cell? ⟨g, 0, none⟩ = some (.map (some b)) from fun k w' h => (HCW.out.call (newC.low k w' h)).blk.at_ rfl)
      have HL := Lib.hid (show ∀ k w', newC w_ 38 (markV noMrk) cs k w' → (Instr.lookup 58 (.map (some b)) (.agg es.toArray) false).run Try.prog w' = .ok (.agg cs.toArray) w' from fun k w' h => HLK.out w' (HCW.out.call (newC.low k w' h)))
      have HX1 := Lib.hid (show ∀ k w', newC w_ 38 (markV noMrk) cs k w' → Blk w' g5 64 es from fun k w' h => HE.out.blk.call (newC.low k w' h))
      refine ph_value rfl (by first | rfl | go_simp) (fun k_ _ _ w_ hC_ => by first | (go_simp; rfl) | (go_simp; done) | rfl) (fun K hK => ?_)
      go_simp
      refine hK _ ?_
      clear hK K
      refine ph_value rfl (by first | rfl | go_simp) (fun k_ _ _ w_ hC_ => by first | (go_simp; rfl) | (go_simp; done) | rfl) (fun K hK => ?_)
      go_simp
      refine hK _ ?_
      clear hK K
      refine ph_value rfl (by first | rfl | go_simp) (fun k_ _ _ w_ hC_ => by first | (go_simp; rfl) | (go_simp; done) | rfl) (fun K hK => ?_)
      go_simp
      refine hK _ ?_
      clear hK K
      refine ph_value rfl (by first | rfl | go_simp) (fun k_ _ _ w_ hC_ => by have c1 := HF.out _ _ hC_; first | (go_simp; rfl) | (go_simp; done) | rfl) (fun K hK => ?_)
      go_simp
      refine hK _ ?_
      clear hK K
      refine ph_load rfl rfl rfl row_mkey (fun k _ _ w h => HX1.out k w h) rfl HPC.out.len ?_
      (intro K hK; go_simp; refine hK _ ?_; clear hK K)
      refine ph_value rfl (by first | rfl | go_simp) (fun k_ _ _ w_ hC_ => by have c1 := HL.out _ _ hC_; first | (go_simp; rfl) | (go_simp; done) | rfl) (fun K hK => ?_)
      go_simp
      refine hK _ ?_
      clear hK K
      refine ph_alloc 0 rfl rfl rfl rfl rfl zero_mark newC.lay ?_
      (intro K hK; go_simp; refine hK _ ?_; clear hK K)
      refine ph_store 1 rfl rfl rfl rfl rfl row_mark rfl rfl HCC.out.len HCC.out.one (newC.put (markV_length noMrk_ok)) ?_
      (intro K hK; go_simp; refine hK _ ?_; clear hK K)
      refine ph_nil ?_
      intro w3 ⟨hl3, hs3, hx3⟩
      rw [← hg6] at hs3 hx3 ⊢
      replace HE := Lib.hid (HE.out.grow hl3)
      have HX := Lib.hid (show At w3 g6 38 138 cs from at_mk hx3 HCC.out.len)
      replace HB := Lib.hid (HB.out.grow' hl3)
      obtain ⟨z3, hz3⟩ : ∃ q, q = wq.heap.size := ⟨_, rfl⟩
      obtain ⟨z4, hz4⟩ : ∃ q, q = w3.heap.size := ⟨_, rfl⟩
      have HKE := Lib.hid (show KS gp z1 z2 z3 z4 g5 ∧ KS gp z1 z2 z3 z4 g6 by
        have h1 := HEG.out
        refine ⟨.inr ⟨by rw [hz3]; exact h1.1, by rw [hz4]; omega⟩, .inr ⟨by rw [hz3, hg6]; omega, by rw [hz4]; omega⟩⟩)
      have HPN := Lib.hid (show PenAt w3 (KS gp z1 z2 z3 z4) gp acc from HP.out.more HB.out (fun j hj => by
        rcases hj with h | h
        · exact .inl h
        · exact .inr (by rw [← hz3, ← hz4]; exact h)))
      have HKN := Lib.hid (show Kept (KR gp z1 z2) w2 w3 from HKQ.out.trans (Kept.of_grow HB.out (fun j hj => by
        have h1 := HWZ.out; have h2 := HGZ.out; have h3 := HZ12.out
        rcases hj with h | h <;> omega)))
      clear hl3 hs3 hx3 HF HL HX1 HCW HB HP HKQ HEG hg6 hz3 hz4 HWZ HE_g HLK HW0
      try clear w_
      try clear wq
      rename World => w_
      have c1 := HE.out.blk.at_ HE0.out
      have q1 := conv_u64' (n := ix) (by omega)
      go_wp2_with fail
      refine (num_any gp ix (KS gp z1 z2 z3 z4) acc _ HPN.out (by omega) (by omega)).mono ?_
      rintro e w2_ ⟨rfl, hp_, hk_⟩
      replace HPN := Lib.hid hp_
      replace HKN := Lib.hid (HKN.out.trans (hk_.mono (fun j hj => .inl hj)))
      replace HE := Lib.hid (at_mk (hk_.blk HE.out.blk HKE.out.1) HE.out.len)
      replace HX := Lib.hid (at_mk (hk_.blk HX.out.blk HKE.out.2) HX.out.len)
      clear hp_ hk_
      try clear w_
      rename World => w_
      clear c1 q1
      have HMT := Lib.hid (show ∀ j u, tb[j]? = some u → w_.cell? ⟨g5, 1 + j, none⟩ = some u from fun j u hu => HE.out.blk.at_ (HET.out j u hu))
      go_wp2_with (first | (with_reducible refine wpl_loadm (o := ⟨some 35, _, _, _, _, _⟩) rfl rfl row_id HMT.out rfl HDT.out.len ?_))
      clear HMT
      go_wp2_with fail
      refine (pid_any gp (KS gp z1 z2 z3 z4) (acc ++ numB ix) HDT.out _ HPN.out (by rw [List.length_append]; omega)).mono ?_
      rintro e w2_ ⟨rfl, hp_, hk_⟩
      replace HPN := Lib.hid hp_
      replace HKN := Lib.hid (HKN.out.trans (hk_.mono (fun j hj => .inl hj)))
      replace HE := Lib.hid (at_mk (hk_.blk HE.out.blk HKE.out.1) HE.out.len)
      replace HX := Lib.hid (at_mk (hk_.blk HX.out.blk HKE.out.2) HX.out.len)
      clear hp_ hk_
      try clear w_
      rename World => w_
      have c1 := HX.out.blk.at_ HC137.out
      have q1 := conv_u64' (n := ex) (by omega)
      go_wp2_with fail
      refine (num_any gp ex (KS gp z1 z2 z3 z4) (acc ++ numB ix ++ tx) _ HPN.out (by clear q1; simp only [List.length_append]; omega) (by omega)).mono ?_
      rintro e w2_ ⟨rfl, hp_, hk_⟩
      replace HPN := Lib.hid hp_
      replace HKN := Lib.hid (HKN.out.trans (hk_.mono (fun j hj => .inl hj)))
      replace HE := Lib.hid (at_mk (hk_.blk HE.out.blk HKE.out.1) HE.out.len)
      replace HX := Lib.hid (at_mk (hk_.blk HX.out.blk HKE.out.2) HX.out.len)
      clear hp_ hk_
      try clear w_
      rename World => w_
      clear c1 q1
      have HMT := Lib.hid (show ∀ j u, cv[j]? = some u → w_.cell? ⟨g6, 0 + j, none⟩ = some u from fun j u hu => HX.out.blk.at_ (HEC.out j u hu))
      go_wp2_with (first | (with_reducible refine wpl_loadm (o := ⟨some 44, _, _, _, _, _⟩) rfl rfl row_cert HMT.out rfl LCV.out ?_))
      clear HMT
      have HW0 := Lib.hid (show Below w0.heap.size w0 w_ from HWW.out.trans ((HK2.out.trans (HKN.out.below (fun j hj => .inl hj))).mono HSS.out))
      go_wp2_with fail
      refine (HRC2.out _ HW0.out).mono ?_
      rintro e w4_ ⟨A5, c5, rfl, ho_, hc_, hb_⟩
      obtain ⟨z5, hz5⟩ : ∃ q, q = w_.heap.size := ⟨_, rfl⟩
      rw [← hz5] at ho_
      have HSC := Lib.hid ho_
      have HPQ := Lib.hid (show PenAt w4_ (KS gp z1 z2 z5 w4_.heap.size) gp (acc ++ numB ix ++ tx ++ numB ex) from HPN.out.more hb_ (fun j hj => by
        rcases hj with h | h
        · exact .inl (.inl h)
        · exact .inr (by rw [← hz5]; exact h)))
      have hwz : z2 ≤ w_.heap.size := by rw [HZ2.out]; exact HKN.out.size
      have HKP := Lib.hid (show Kept (KR gp z1 z2) w2 w4_ from HKN.out.trans (Kept.of_grow hb_ (fun j hj => by
        have h2 := HGZ.out; have h3 := HZ12.out
        rcases hj with h | h <;> omega)))
      clear ho_ hc_ hb_ hz5 hwz HPN HKN HE HX HW0 HKE
      try clear w_
      rename World => w_
      go_wp2_with fail
      refine (ptextk_any gp (KS gp z1 z2 z5 w_.heap.size) (acc ++ numB ix ++ tx ++ numB ex) w_ HPQ.out HCL.out.symm (fun w' hk => own_ks HSC.out hk) (by simp only [List.length_append]; omega)).mono ?_
      rintro e w5_ ⟨rfl, hp_, hk_⟩
      have HPR := Lib.hid (show PenAt w5_ (KR gp z1 z2) gp (acc ++ numB ix ++ tx ++ numB ex ++ (numB cl ++ cb)) from hp_.less (fun j hj => .inl hj))
      replace HKP := Lib.hid (HKP.out.trans (hk_.mono (fun j hj => .inl hj)))
      clear hp_ hk_ HPQ HSC
      try clear w_
      rename World => w_
      have HREL := Lib.hid (show ∃ acc : List UInt8, PenAt w_ (KR gp z1 z2) gp acc ∧ acc.length ≤ 9 + (k + 1) * 2100 ∧ acc = numB n ++ (X.take (k + 1)).flatMap putMk ∧ Kept (KR gp z1 z2) w2 w_ from ⟨acc ++ numB ix ++ tx ++ numB ex ++ (numB cl ++ cb), HPR.out, by have h1 := HCL.out; simp only [List.length_append]; omega, by rw [HSN.out, HPI.out, HAC.out, HCL.out]; simp only [List.append_assoc], HKP.out⟩)
      clear HPR HKP hlix hlex hlcl htl
      have v1 : IntKind.i64.wrap ((k : Int) + 1) = (k : Int) + 1 := IntWalk.i64_in _ (by omega)
      go_wp2_with fail
      go_roundw
      all_goals clear v1
      case rel => exact ⟨k + 1, by omega, by go_num, HREL⟩
      case measure => simp [intOf]; omega
    · obtain rfl : k = n := by omega
      have HAE := Lib.hid (show acc = out by have h := HAC.out; rw [List.take_of_length_le (by omega)] at h; rw [HPT.out]; exact h)
      have HEND := Lib.hid (show PenAt w_ (KR gp 0 0) gp out ∧ out.length ≤ 300000 ∧ Below gp w w_ from ⟨by rw [← HAE.out]; exact HP.out.less (fun j hj => by rcases hj with h | h; exact .inl h; omega), by rw [← HAE.out]; omega, HK2.out.trans (HKQ.out.below (fun j hj => .inl hj))⟩)
      go_wp2_with fail
      refine bodyPost_end (results_none rfl _ _ _) rfl ?_
      exact ⟨rfl, HEND.out⟩
end Go.Proofs.Ytofhohofaedokaa

/- seisinlaw20.some and awake over marks with paths. Printed by mkmse.py out of XMarkE, XMarkF, XMarkS. -/
namespace Go.Proofs.Ytofhohofaedokaa
open Go.RowKit
set_option linter.unusedVariables false
def zeros32 : List UInt8 := [0, 0, 0, 0, 0, 0, 0, 0, 0, 0, 0, 0, 0, 0, 0, 0, 0, 0, 0, 0, 0, 0, 0, 0, 0, 0, 0, 0, 0, 0, 0, 0]
def idFour : List UInt8 := [4, 0, 0, 0, 0, 0, 0, 0, 0, 0, 0, 0, 0, 0, 0, 0, 0, 0, 0, 0, 0, 0, 0, 0, 0, 0, 0, 0, 0, 0, 0, 0]
def someE : Ent := ⟨1, 0, zeros32, 0, 0, 0⟩
def someH : Hdr := ⟨0, 1, 0, zeros32, zeros32⟩
def someM (x : Int) : Mrk := ⟨someE, someH, zeros32, x, none, 0, 0⟩
theorem someM_ok {x : Int} (h : I64 x) : (someM x).ok := ⟨by simp [someM, someE, Ent.ok, I64, U64, zeros32], by simp [someM, someH, Hdr.ok, I64, zeros32], by simp [someM, zeros32], h, by simp [someM]⟩
def mcertV : List Value := entV someE ++ (.slice none 0 0 :: (hdrV someH ++ zeros32.map B))
theorem bt1 : Try.prog.built 31 [(0, .int .i64 1)] = some (entV someE).toArray := by kernel_rfl
theorem bt2 : Try.prog.built 34 [(1, .int .i64 1)] = some (hdrV someH).toArray := by kernel_rfl
theorem bt3 : Try.prog.built 36 [(0, .agg (entV someE).toArray), (2, .agg (hdrV someH).toArray)] = some mcertV.toArray := by kernel_rfl
theorem bt5 : Try.prog.built 28 [(0, .int .u8 4)] = some (idFour.map B).toArray := by kernel_rfl
theorem bt4x (x : Int) : Try.prog.built 38 [(0, .agg mcertV.toArray), (1, .int .i64 x)] = some (markV (someM x)).toArray := by
  have h0 : Try.prog.built 38 [(0, .agg mcertV.toArray), (1, .int .i64 x)] = Instr.fill (fun i => (#[(0, 137), (137, 1)] : Array (Nat × Nat))[i]?) (markV noMrk).toArray [(0, .agg mcertV.toArray), (1, .int .i64 x)] := by kernel_rfl
  have hl : mcertV.length = 137 := by decide +kernel
  have hm : (markV noMrk).length = 138 := markV_length noMrk_ok
  rw [h0, fill_cons (off := 0) (s := 137) (cs := mcertV) rfl rfl hl (by rw [hm]; omega), fill_cons (off := 137) (s := 1) (cs := [.int .i64 x]) rfl rfl rfl (by unfold splice; simp [hl, hm]), fill_nil]
  refine congrArg (fun l : List Value => some l.toArray) ?_
  have e1 : splice (markV noMrk) 0 mcertV = mcertV ++ (markV noMrk).drop 137 := by unfold splice; simp [hl]
  have e2 : (markV noMrk).drop 137 = [.int .i64 0] := by kernel_rfl
  rw [e1, e2]
  unfold splice
  rw [List.take_append_of_le_length (by omega), List.take_of_length_le (by omega), List.drop_of_length_le (by simp [hl])]
  unfold markV mcertV someM
  simp
set_option maxRecDepth 100000 in
set_option maxHeartbeats 1000000 in
theorem somex_any (x : Int) (w : World) (hx : I64 x) : Calls Try.prog 11 #[.int .i64 x] w fun e w' => e = .returned (markA (someM x)) ∧ Below w.heap.size w w' := by
  have HNL := Lib.hid (markV_length noMrk_ok)
  have HML := Lib.hid (markV_length (someM_ok hx))
  have HM1 := Lib.hid (markV_one (someM x))
  have T1 := Lib.hid bt1; have T2 := Lib.hid bt2; have T3 := Lib.hid bt3; have T4 := Lib.hid (bt4x x)
  clear hx
  unfold markA
  generalize markV (someM x) = ms at *
  generalize mcertV = cv at *
  generalize entV someE = ev at *
  generalize hdrV someH = hv at *
  go_enter Try.func11, Try.ntmps11
  go_wp2_with (first | (with_reducible refine wpl_alloc (o := ⟨some 2, _, _, _, _, _⟩) rfl rfl zero_mark ?_))
  intro w1 hb1 hbw1 hsz1
  have HB1 := Lib.hid hb1
  have HBW := Lib.hid hbw1
  have HSZ := Lib.hid hsz1
  clear hb1 hbw1 hsz1
  go_wp2_with (first | (refine wpl_build (o := ⟨some 3, _, _, _, _, _⟩) rfl rfl T1.out ?_) | (refine wpl_build (o := ⟨some 4, _, _, _, _, _⟩) rfl rfl T2.out ?_) | (refine wpl_build (o := ⟨some 5, _, _, _, _, _⟩) rfl rfl T3.out ?_) | (refine wpl_build (o := ⟨some 7, _, _, _, _, _⟩) rfl rfl T4.out ?_) | (with_reducible refine wpl_storeb (o := ⟨none, .store _ _ _, _, _, _, _⟩) rfl rfl row_mark HB1.out rfl rfl HNL.out HML.out HM1.out ?_))
  intro w2 hb2 hg2 hs2
  have HB2 := Lib.hid hb2
  have HL2 := Lib.hid (HBW.out.grown hg2 (by have := HSZ.out; omega) (fun k hk => by cases hk; omega))
  clear hb2 hg2 hs2
  go_wp2_with fail
  refine ret_cell rfl row_mark HB2.out rfl HML.out rfl ?_
  exact ⟨rfl, HL2.out⟩
theorem path_some (w : World) (x : Int) (A : Option Addr) (c : Nat) : PathAt w ((someM x).at A c) [] := ⟨⟨rfl, fun h => absurd h (by simp [someM, Mrk.at])⟩, rfl, by simp, Nat.zero_le _⟩
theorem path_some0 (w : World) (x : Int) : PathAt w (someM x) [] := path_some w x none 0
theorem right_some {x : Int} (h0 : 0 ≤ x) (h1 : x ≤ 1099511627776) : rightM (someM x) = true := by
  have : rightM (someM x) = (rightE someE && rightH someH && decide ((0 : Nat) ≤ 32) && inB x 0 1099511627776) := rfl
  rw [this, show (rightE someE && rightH someH && decide ((0 : Nat) ≤ 32)) = true from by decide +kernel]
  simp [inB]; omega
theorem put1 : putM [] (1, idFour) (someM 3) = 0 := by unfold putM; rw [if_neg (by decide), if_neg (by rw [right_some (by omega) (by omega)]; simp), if_neg (by simp [lookM]), if_neg (by simp)]
theorem put2 (A : Option Addr) (c : Nat) : putM [((1, idFour), (someM 3).at A c)] (2, idFour) (someM 3) = 1 := by simp [putM]
theorem get1 (A : Option Addr) (c : Nat) : lookM [((1, idFour), (someM 3).at A c)] (1, idFour) = some ((someM 3).at A c) := by simp [lookM]
theorem mk1 : MKOK (1, idFour) := by simp [MKOK, I64, idFour]
theorem mk2 : MKOK (2, idFour) := by simp [MKOK, I64, idFour]
theorem some_ok : (someM 3).ok := someM_ok (by simp [I64])
theorem exp_at (A : Option Addr) (c : Nat) : (markV ((someM 3).at A c))[137]? = some (.int .i64 3) := mark_exp (Mrk.at_ok some_ok A c)
set_option maxRecDepth 100000 in
set_option maxHeartbeats 1000000 in
theorem awake20_any (w : World) : Calls Try.prog 4 #[] w fun e w' => e = .returned (.bool true) ∧ Below w.heap.size w w' := by
  have HNL := Lib.hid (markV_length noMrk_ok)
  have T5 := Lib.hid bt5
  have HS := Lib.hid (fun w => somex_any 3 w (by simp [I64]))
  have HP1 := Lib.hid (show ∀ g b w, MarksAt w g b [] → Calls Try.prog 7 #[.pointer (some ⟨g, 0, none⟩), .int .i64 1, .agg (idFour.map B).toArray, markA (someM 3)] w fun e w' => e = .returned (.int .i64 0) ∧ Touched [b] w w' ∧ ∃ A c, MarksAt w' g b [((1, idFour), (someM 3).at A c)] from fun g b w h => (mput_any g b [] (1, idFour) (someM 3) w [] h mk1 some_ok (path_some0 w 3)).mono fun e w' ⟨h1, h2, h3, _⟩ => ⟨by rw [h1, put1], h2, by obtain ⟨A, c, h4, _⟩ := h3 put1; exact ⟨A, c, h4⟩⟩)
  have HP2 := Lib.hid (show ∀ A c g b w, MarksAt w g b [((1, idFour), (someM 3).at A c)] → Calls Try.prog 7 #[.pointer (some ⟨g, 0, none⟩), .int .i64 2, .agg (idFour.map B).toArray, markA (someM 3)] w fun e w' => e = .returned (.int .i64 1) ∧ Touched [b] w w' ∧ MarksAt w' g b [((1, idFour), (someM 3).at A c)] from fun A c g b w h => (mput_any g b [((1, idFour), (someM 3).at A c)] (2, idFour) (someM 3) w [] h mk2 some_ok (path_some0 w 3)).mono fun e w' ⟨h1, h2, _, h3⟩ => ⟨by rw [h1, put2], h2, h3 (by rw [put2]; decide)⟩)
  have HG := Lib.hid (show ∀ A c g b w, MarksAt w g b [((1, idFour), (someM 3).at A c)] → Calls Try.prog 13 #[.pointer (some ⟨g, 0, none⟩), .int .i64 1, .agg (idFour.map B).toArray] w fun e w' => (∃ cs : List Value, e = .returned (.tuple #[.agg cs.toArray, .bool true]) ∧ Cl 138 cs ∧ cs[137]? = some (.int .i64 3)) ∧ Below w.heap.size w w' from fun A c g b w h => (mget_any g b [((1, idFour), (someM 3).at A c)] (1, idFour) w [] h mk1 (by rw [get1]; exact path_some w 3 A c)).mono fun e w' ⟨A2, c2, h1, _, h2⟩ => ⟨⟨markV ((someM 3).at A2 c2), by rw [h1, get1]; rfl, mark_cl (Mrk.at_ok some_ok A2 c2), exp_at A2 c2⟩, h2⟩)
  unfold markA at HS HP1 HP2
  obtain ⟨ms, hms⟩ : ∃ ms, ms = markV (someM 3) := ⟨_, rfl⟩
  rw [← hms] at HS HP1 HP2
  obtain ⟨ids, hids⟩ : ∃ ids, ids = idFour.map B := ⟨_, rfl⟩
  rw [← hids] at T5 HP1 HP2 HG
  clear hms hids
  obtain ⟨z, hz⟩ : ∃ z, z = w.heap.size := ⟨_, rfl⟩
  have HZ := Lib.hid hz
  clear hz
  go_enter Try.func4, Try.ntmps4
  go_wp2_with fail
  refine (mnew_any _).mono ?_
  rintro e w1 ⟨g, b, rfl, hM, hg, hb, hbw⟩
  rw [← HZ.out] at hg hb hbw
  have HM := Lib.hid hM
  have HB := Lib.hid hbw
  have HSZ := Lib.hid (show z ≤ w1.heap.size by have := hM.ltg; omega)
  clear hM hbw
  go_wp2_with (first | (refine wpl_buildw (o := ⟨some 9, _, _, _, _, _⟩) (by first | rfl | (go_simp; done) | fail) rfl T5.out ?_))
  refine (HS.out _).mono ?_
  rintro e w2 ⟨rfl, hb2⟩
  have HM2 := Lib.hid (HM.out.call hb2)
  have HB2 := Lib.hid (HB.out.trans (hb2.mono HSZ.out))
  have HSZ2 := Lib.hid (Nat.le_trans HSZ.out hb2.size)
  clear hb2 HM HB HSZ
  go_wp2_with fail
  refine (HP1.out g b _ HM2.out).mono ?_
  rintro e w3 ⟨rfl, ht, aA, cA, hM3⟩
  have HM3 := Lib.hid hM3
  have HB3 := Lib.hid (HB2.out.trans (ht.below (by simp; omega) HSZ2.out))
  have HSZ3 := Lib.hid (Nat.le_trans HSZ2.out ht.size)
  clear ht hM3 HM2 HB2 HSZ2
  go_wp2_with (first | (refine wpl_buildw (o := ⟨some 16, _, _, _, _, _⟩) (by first | rfl | (go_simp; done) | fail) rfl T5.out ?_))
  refine (HS.out _).mono ?_
  rintro e w4 ⟨rfl, hb2⟩
  have HM4 := Lib.hid (HM3.out.call hb2)
  have HB4 := Lib.hid (HB3.out.trans (hb2.mono HSZ3.out))
  have HSZ4 := Lib.hid (Nat.le_trans HSZ3.out hb2.size)
  clear hb2 HM3 HB3 HSZ3
  go_wp2_with fail
  refine (HP2.out aA cA g b _ HM4.out).mono ?_
  rintro e w5 ⟨rfl, ht, hM5⟩
  have HM5 := Lib.hid hM5
  have HB5 := Lib.hid (HB4.out.trans (ht.below (by simp; omega) HSZ4.out))
  have HSZ5 := Lib.hid (Nat.le_trans HSZ4.out ht.size)
  clear ht hM5 HM4 HB4 HSZ4
  go_wp2_with (first | (refine wpl_build (o := ⟨some 23, _, _, _, _, _⟩) rfl rfl T5.out ?_))
  refine (HG.out aA cA g b _ HM5.out).mono ?_
  rintro e w6 ⟨⟨gs, rfl, hgc, hgx⟩, hb2⟩
  have HML := Lib.hid hgc.len
  have HM1 := Lib.hid hgc.one
  have HX := Lib.hid hgx
  clear hgc hgx
  have HM6 := Lib.hid (HM5.out.call hb2)
  have HB6 := Lib.hid (HB5.out.trans (hb2.mono HSZ5.out))
  have HSZ6 := Lib.hid (Nat.le_trans HSZ5.out hb2.size)
  clear hb2 HM5 HB5 HSZ5
  go_wp2_with (first | (with_reducible refine wpl_alloc (o := ⟨some 2, _, _, _, _, _⟩) rfl rfl zero_mark ?_))
  intro w7 hb7 hbw7 hsz7
  have HV7 := Lib.hid hb7
  have HM7 := Lib.hid (HM6.out.call hbw7)
  have HB7 := Lib.hid (HB6.out.trans (hbw7.mono HSZ6.out))
  have HGG := Lib.hid (show g ≠ w6.heap.size ∧ b ≠ w6.heap.size by have := HM6.out.ltg; have := HM6.out.ltb; omega)
  clear hb7 hbw7
  go_wp2_with (first | (with_reducible refine wpl_storeb (o := ⟨none, .store _ _ _, _, _, _, _⟩) rfl rfl row_mark HV7.out rfl rfl HNL.out HML.out HM1.out ?_))
  intro w8 hb8 hg8 hs8
  have c137 := hb8.at_ HX.out
  have HM8 := Lib.hid (show MarksAt w8 g b [((1, idFour), (someM 3).at aA cA)] by
    obtain ⟨q1, ⟨es, clock, q2, q3, q4⟩, q5, q6⟩ := HM7.out
    exact ⟨q1.grown hg8 (by simpa using HGG.out.1), ⟨es, clock, (hg8.block b HM7.out.ltb (by simpa using HGG.out.2)).trans q2, q3, q4⟩, q5, q6⟩)
  have HB8 := Lib.hid (HB7.out.grown hg8 (by have := HSZ6.out; omega) (fun k hk => by cases hk; exact HSZ6.out))
  clear hb8 hg8 hs8 HV7 HM7 HB7 HM6 HB6
  go_wp2_with fail
  refine (mlen_any g b _ _ HM8.out).mono ?_
  rintro e w9 ⟨rfl, rfl⟩
  go_wp2_with fail
  refine (old_any 3 5 _ (by simp [I64]) (by simp [I64]) (r := false) (by decide)).mono ?_
  rintro e w9 ⟨rfl, rfl⟩
  go_wp2_with fail
  refine (old_any 3 6 _ (by simp [I64]) (by simp [I64]) (r := true) (by decide)).mono ?_
  rintro e w9 ⟨rfl, rfl⟩
  go_wp2_with fail
  go_ret
  exact ⟨rfl, by rw [← HZ.out]; exact HB8.out⟩
end Go.Proofs.Ytofhohofaedokaa

/- The contract of seisinref01.Bytes: the same bytes? -/
namespace Go.Proofs.Ytofhohofaedokaa
open Go.RowKit
set_option linter.unusedVariables false
set_option maxRecDepth 100000 in
set_option maxHeartbeats 1000000 in
theorem bytesq_any {res : Bool} {A A2 : Option Addr} {n c n2 c2 : Nat} {xs ys : List UInt8} (hres : decide (xs = ys) = res) (w : World) (h1 : Sl w w.heap.size 1 A n (xs.map B)) (h2 : Sl w w.heap.size 1 A2 n2 (ys.map B)) (hn : n ≤ 1000000) :
    Calls Try.prog 27 #[.slice A n c, .slice A2 n2 c2] w fun e w' => e = .returned (.bool res) ∧ Below w.heap.size w w' := by
  have H1 := Lib.hid h1; have H2 := Lib.hid h2
  have HL1 := Lib.hid (show xs.length = n by have := h1.len; simpa using this)
  have HL2 := Lib.hid (show ys.length = n2 by have := h2.len; simpa using this)
  have HRES := Lib.hid hres
  clear h1 h2 hres
  by_cases hnn : n = n2
  · subst hnn
    have z1 : ((n : Int) != (n : Int)) = false := by simp
    go_enter Try.func27, Try.ntmps27
    go_wp2_with fail
    go_loopw [5] (fun i wr => ∃ k : Nat, k ≤ n ∧ i = .int .i64 k ∧ Hid (xs.take k = ys.take k) ∧ Hid (Below w.heap.size w wr)) (fun i _ => n - (intOf i).toNat)
    case atStart => exact ⟨0, by omega, rfl, Lib.hid (by simp), Lib.hid (Below.refl _ _)⟩
    case round =>
      obtain ⟨k, hk, rfl, heq, hbw⟩ := hrel
      by_cases hlt : k < n
      · have HB := hbw
        have H1A := Lib.hid ((H1.out.below HB.out).more HB.out.size)
        have H2A := Lib.hid ((H2.out.below HB.out).more HB.out.size)
        obtain ⟨x, hx⟩ : ∃ x, xs[k]? = some x := ⟨_, List.getElem?_eq_getElem (by rw [HL1.out]; exact hlt)⟩
        obtain ⟨y, hy⟩ : ∃ y, ys[k]? = some y := ⟨_, List.getElem?_eq_getElem (by rw [HL2.out]; exact hlt)⟩
        have HX := Lib.hid hx; have HY := Lib.hid hy
        clear hx hy
        by_cases hxy : x = y
        · subst hxy
          try go_wp2_with fail
          repeat' (first | (with_reducible refine wp_plan (id := 6) Grow [0,0,0,2,0,0,0,2,0] (.get 0 (.get 1 (.get 2 (.get 3 (.get 4 (.get 5 (.get 6 (.get 7 (.get 8 .done))))))))) (by kernel_rfl) (by kernel_rfl) Grow.refl Grow.trans ?_) | go_values | go_skip | go_guarded | go_step | go_upon | go_back)
          intro w_ hd_
          have hb_ := hd_.grow
          have HB_ := Lib.hid (HB.out.grow' hb_)
          clear HB
          have HB := HB_
          clear HB_
          have H1A_ := Lib.hid (H1A.out.grow hb_)
          clear H1A
          have H1A := H1A_
          clear H1A_
          have H2A_ := Lib.hid (H2A.out.grow hb_)
          clear H2A
          have H2A := H2A_
          clear H2A_
          clear hb_ hd_
          obtain ⟨b1, o1, u1, rfl, hb1, hu1, hc1⟩ := H1A.out.at_ hlt
          obtain ⟨b2, o2, u2, rfl, hb2, hu2, hc2⟩ := H2A.out.at_ hlt
          obtain rfl : u1 = .int .u8 (b8 x) := by rw [List.getElem?_map, HX.out] at hu1; exact (Option.some.inj hu1).symm
          obtain rfl : u2 = .int .u8 (b8 x) := by rw [List.getElem?_map, HY.out] at hu2; exact (Option.some.inj hu2).symm
          clear hb1 hb2 hu1 hu2
          repeat (first | (refine pl_calm rfl rfl (by first | exact wanted_none rfl | (go_simp; done) | rfl) (fun w_ => by first | (go_simp; rfl) | (go_simp; done) | rfl) (fun K hK => ?_); go_simp; refine hK _ _ ?_; clear hK K) | (refine pl_skip rfl (by first | (go_simp; done) | rfl) (fun K hK => ?_); go_simp; refine hK _ _ ?_; clear hK K) | (refine pl_skipa rfl (by first | (go_simp; done) | rfl) (fun K hK => ?_); go_simp; refine hK _ _ ?_; clear hK K) | (refine pl_load rfl rfl (by first | exact wanted_none rfl | (go_simp; done) | rfl) rfl (by first | rfl | (go_simp; rfl)) (by kernel_rfl) (by first | exact hc1 | exact hc2) (fun K hK => ?_); go_simp; refine hK _ _ ?_; clear hK K) | (refine pl_loadnow rfl rfl (by first | exact wanted_none rfl | (go_simp; done) | rfl) rfl (by first | rfl | (go_simp; rfl)) (by kernel_rfl) (by first | exact hc1 | exact hc2) (fun K hK => ?_); go_simp; refine hK _ _ ?_; clear hK K))
          refine pl_done ?_
          clear hc1 hc2
          have HE := Lib.hid (show xs.take (k + 1) = ys.take (k + 1) by rw [List.take_add_one, List.take_add_one, heq.out, HX.out, HY.out])
          go_wp2_with fail
          go_roundw
          case rel => exact ⟨k + 1, by omega, by go_num, HE, HB⟩
          case measure => simp [intOf]; omega
        · have hbb : ((b8 x) != (b8 y)) = true := by
            have : b8 x ≠ b8 y := fun h => hxy (b8_inj h)
            simpa using this
          have HF := Lib.hid (show res = false by
            rw [← HRES.out]
            have : xs ≠ ys := fun h => by
              subst h
              have h1 := HX.out
              rw [HY.out] at h1
              exact hxy (Option.some.inj h1).symm
            simpa using this)
          have hne : b8 x ≠ b8 y := fun h => hxy (b8_inj h)
          have hq := eq_false hne
          clear hxy
          try go_wp2_with fail
          repeat' (first | (with_reducible refine wp_plan (id := 6) Grow [0,0,0,2,0,0,0,2,0] (.get 0 (.get 1 (.get 2 (.get 3 (.get 4 (.get 5 (.get 6 (.get 7 (.get 8 .done))))))))) (by kernel_rfl) (by kernel_rfl) Grow.refl Grow.trans ?_) | go_values | go_skip | go_guarded | go_step | go_upon | go_back)
          intro w_ hd_
          have hb_ := hd_.grow
          have HB_ := Lib.hid (HB.out.grow' hb_)
          clear HB
          have HB := HB_
          clear HB_
          have H1A_ := Lib.hid (H1A.out.grow hb_)
          clear H1A
          have H1A := H1A_
          clear H1A_
          have H2A_ := Lib.hid (H2A.out.grow hb_)
          clear H2A
          have H2A := H2A_
          clear H2A_
          clear hb_ hd_
          obtain ⟨b1, o1, u1, rfl, hb1, hu1, hc1⟩ := H1A.out.at_ hlt
          obtain ⟨b2, o2, u2, rfl, hb2, hu2, hc2⟩ := H2A.out.at_ hlt
          obtain rfl : u1 = .int .u8 (b8 x) := by rw [List.getElem?_map, HX.out] at hu1; exact (Option.some.inj hu1).symm
          obtain rfl : u2 = .int .u8 (b8 y) := by rw [List.getElem?_map, HY.out] at hu2; exact (Option.some.inj hu2).symm
          clear hb1 hb2 hu1 hu2
          repeat (first | (refine pl_calm rfl rfl (by first | exact wanted_none rfl | (go_simp; done) | rfl) (fun w_ => by first | (go_simp; rfl) | (go_simp; done) | rfl) (fun K hK => ?_); go_simp; refine hK _ _ ?_; clear hK K) | (refine pl_skip rfl (by first | (go_simp; done) | rfl) (fun K hK => ?_); go_simp; refine hK _ _ ?_; clear hK K) | (refine pl_skipa rfl (by first | (go_simp; done) | rfl) (fun K hK => ?_); go_simp; refine hK _ _ ?_; clear hK K) | (refine pl_load rfl rfl (by first | exact wanted_none rfl | (go_simp; done) | rfl) rfl (by first | rfl | (go_simp; rfl)) (by kernel_rfl) (by first | exact hc1 | exact hc2) (fun K hK => ?_); go_simp; refine hK _ _ ?_; clear hK K) | (refine pl_loadnow rfl rfl (by first | exact wanted_none rfl | (go_simp; done) | rfl) rfl (by first | rfl | (go_simp; rfl)) (by kernel_rfl) (by first | exact hc1 | exact hc2) (fun K hK => ?_); go_simp; refine hK _ _ ?_; clear hK K))
          refine pl_done ?_
          clear hc1 hc2
          go_wp2_with fail
          go_ret
          exact ⟨by rw [HF.out]; rfl, HB.out⟩
      · obtain rfl : k = n := by omega
        have HT := Lib.hid (show res = true by
          rw [← HRES.out]
          have h := heq.out
          rw [List.take_of_length_le (by rw [HL1.out]; exact Nat.le_refl _), List.take_of_length_le (by rw [HL2.out]; exact Nat.le_refl _)] at h
          simpa using h)
        go_wp2_with fail
        go_ret
        exact ⟨by rw [HT.out]; rfl, hbw.out⟩
  · have z1 : ((n : Int) != (n2 : Int)) = true := by simp; omega
    have HF := Lib.hid (show res = false by
      rw [← HRES.out]
      have : xs ≠ ys := fun h => by subst h; exact hnn (by rw [← HL1.out, ← HL2.out])
      simpa using this)
    have hz : ¬ ((n : Int) = (n2 : Int)) := by omega
    have hzq := eq_false hz
    go_enter Try.func27, Try.ntmps27
    go_wp2_with fail
    go_ret
    exact ⟨by rw [HF.out]; rfl, Below.refl _ _⟩
end Go.Proofs.Ytofhohofaedokaa

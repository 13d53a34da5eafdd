/- The contract of seisinlaw19.is: coins that are the document's are told as such. -/
import Derived.Test.YtolbbhbfbpiljaaCoinsPlayB15
import Derived.Test.YtolbbhbfbpiljaaCoinsPlayB8
import Derived.Deep.Slices
import Derived.Test.YtolbbhbfbpiljaaCoinsPlayB4
import Derived.Test.YtolbbhbfbpiljaaChecked
set_option linter.unusedSimpArgs false
/- The contract of seisinlaw19.is: coins that are the document's are told as such. -/
namespace Go.Proofs.Ytolbbhbfbpiljaa
open Go.RowKit
set_option linter.unusedVariables false
theorem cells_coin : Try.prog.cellsOf 54 = 33 := by kernel_rfl
theorem key_coin : WideMaps.KeyLaw Try.prog 54 := deep_law_laid laid_out (m := 3) (by omega) (of_decide_eq_true (by kernel_rfl)) (by kernel_rfl) (by kernel_rfl)
theorem lits_coin (d : Nat) (c : CoinV) (h : CoinOK c) : ∃ l, Try.prog.keyLits (d + 3) 54 (coinV c) = some l := by
  refine kl_struct Try.underlying54 _ _ (by rw [coinV_length h, cells_coin]) (by kernel_rfl) ?_
  have e0 : (c.1.map B).length = 32 := by rw [List.length_map, h.1]
  have hw : (Lit.int .u64 c.2).wf = true := by have := h.2; simp [Lit.wf, IntKind.min, IntKind.max, IntKind.signed, IntKind.bits]; omega
  intro f hf
  simp only [List.mem_cons, List.not_mem_nil, or_false] at hf
  rcases hf with rfl | rfl
  · have : List.take 32 (List.drop 0 (coinV c)) = c.1.map B := by unfold coinV; rw [List.drop_zero, List.take_append_of_le_length (by omega), List.take_of_length_le (by omega)]
    simp only [cells_id, this]; exact kl_bytes Try.underlying29 Try.underlying5 cells_u8 cells_id _ _ h.1
  · have : List.take 1 (List.drop 32 (coinV c)) = [.int .u64 c.2] := by unfold coinV; rw [List.drop_append_of_le_length (by omega), List.drop_of_length_le (by omega)]; rfl
    simp only [cells_u64, this]; exact kl_int Try.underlying30 _ _ hw
theorem coin_self (c : CoinV) (h : CoinOK c) : ∀ w, (Op.equalIn 10000 54 (.agg (coinV c).toArray) (.agg (coinV c).toArray)).run Try.prog w = .ok true w := by
  obtain ⟨n4, hn4⟩ : ∃ n, Try.prog.types.size + 1 = n + 4 := ⟨Try.prog.types.size - 3, by kernel_rfl⟩
  obtain ⟨r, hr, hq⟩ := eql_deep key_coin (m := 3) (by omega) (by kernel_rfl) (by kernel_rfl) (by kernel_rfl) (coinV c) (coinV c) (by rw [coinV_length h, cells_coin]) (by rw [coinV_length h, cells_coin]) (by rw [hn4]; exact lits_coin (n4 + 1) c h) (by rw [hn4]; exact lits_coin (n4 + 1) c h)
  rw [hr.2 rfl] at hq; exact hq
theorem pt_self (p : PtK) (h : PtOK p) : ∀ w, (Op.equalIn 10000 52 (.agg (ptV p).toArray) (.agg (ptV p).toArray)).run Try.prog w = .ok true w := fun w => by
  have := eql_pt p p h h w
  rwa [decide_eq_true rfl] at this
theorem OwnP.grow {w w' : World} {base n c : Nat} {A : Option Addr} {ys : List PtS} (h : OwnP w base A n c ys) (k : Grow w w') : OwnP w' base A n c ys := h.call k
theorem bytesC_le {X : CoinsL} (hn : X.length ≤ 256) (ho : ∀ e ∈ X, AtOKC e) (hx : IxOK X) : (bytesC X).length ≤ 30000 := by
  have h1 := numB_le (n := X.length) (by omega)
  have h2 : ∀ Y : CoinsL, (∀ e ∈ Y, (putAt e).length ≤ 82) → (Y.flatMap putAt).length ≤ Y.length * 82 := by
    intro Y
    induction Y with
    | nil => intro _; simp
    | cons e r ih =>
      intro h
      have h3 := ih (fun x hx => h x (List.mem_cons_of_mem _ hx))
      have h4 := h e (List.mem_cons_self ..)
      rw [List.flatMap_cons, List.length_append, List.length_cons]; omega
  have h3 := h2 X (fun e he => by
    have h4 := ho e he; have h5 := hx e he
    have h6 := numB_le (n := e.1.2.toNat) (by omega)
    have h7 := numB_le (n := e.2.2.toNat) (by have := h4.2.2; omega)
    unfold putAt
    simp only [List.length_append, h4.1.1, h4.2.1]; omega)
  unfold bytesC
  rw [List.length_append]; omega
theorem zero_penC : (Try.prog.info? 136).map (·.zero) = some (some (.agg ([Value.slice none 0 0]).toArray)) := by kernel_rfl
set_option maxRecDepth 100000 in
set_option maxHeartbeats 8000000 in
theorem isC_any (g b : Nat) (X L : CoinsL) (s : Int) {A : Option Addr} {n c : Nat} (w : World) (h : CoinsAt w g b L s) (hr : RelC X L s) (hx : RowC w A n X) :
    Calls Try.prog 35 #[.pointer (some ⟨g, 0, none⟩), .slice A n c] w fun e w' => e = .returned (.bool true) ∧ Below w.heap.size w w' := by
  have HR := Lib.hid hr
  have hXn : X.length = n := hx.2.2
  have hLn : L.length = n := by rw [← hr.lenX, hXn]
  have hn256 : n ≤ 256 := by rw [← hLn]; exact hr.len
  have hs := hr.max; have hs0 := hr.nn
  have HLEN := Lib.hid (fun w' (h' : CoinsAt w' g b L s) => show Calls Try.prog 57 #[.pointer (some ⟨g, 0, none⟩)] w' fun e w'' => e = .returned (.int .i64 (n : Int)) ∧ w' = w'' from by have := clen_any g b L s w' h'; rwa [hLn] at this)
  have HSUM := Lib.hid (fun w' (h' : CoinsAt w' g b L s) => csum_any g b L s w' h')
  have HRSUM := Lib.hid (fun w' (h' : RowC w' A n X) => show Calls Try.prog 60 #[.slice A n c] w' fun e w'' => e = .returned (.int .u64 s) ∧ w' = w'' from by have := rsum19_any (c := c) w' h' (by omega) (by rw [hr.amt]; omega); rwa [hr.amt] at this)
  have HC := Lib.hid h; have HX := Lib.hid hx
  have HXN := Lib.hid hXn; have HLN := Lib.hid hLn
  have HALL := Lib.hid (fun w' (h' : CoinsAt w' g b L s) => call_any g b L s w' h' (by omega))
  clear h hr hx hXn hLn
  have z1 : ((n : Int) != (n : Int)) = false := by simp
  have z2 : (s != s) = false := by simp
  go_enter Try.func35, Try.ntmps35
  go_wp2_with fail
  refine (HLEN.out w HC.out).mono ?_
  rintro e w0 ⟨rfl, rfl⟩
  go_wp2_with fail
  refine (HSUM.out w HC.out).mono ?_
  rintro e w0 ⟨rfl, rfl⟩
  go_wp2_with fail
  refine (HRSUM.out w HX.out).mono ?_
  rintro e w0 ⟨rfl, rfl⟩
  go_wp2_with fail
  refine (HALL.out w HC.out).mono ?_
  rintro e w2 ⟨v, ks, rfl, hperm, ⟨ss, hss⟩, hrow, hb2⟩
  have hkx := HR.out.all hperm hss
  have hkl : ks.length = n := by have := congrArg List.length hkx; rw [List.length_map, List.length_map, HXN.out] at this; exact this
  obtain ⟨A2, c2, rfl⟩ := own_slice hrow
  rw [hkl] at hrow
  have HKX := Lib.hid hkx
  have HV := Lib.hid (show OwnP w2 w.heap.size A2 n c2 ks from hrow)
  have HB := Lib.hid (show Below w.heap.size w w2 from hb2)
  rw [hkl]
  replace HC := Lib.hid (HC.out.call hb2); replace HX := Lib.hid (HX.out.call hb2)
  clear hperm hss hrow hb2 hkx hkl HLEN HSUM HRSUM HALL z2
  go_wp2_with fail
  go_loopw [6] (fun iv wr => ∃ k : Nat, k ≤ n ∧ iv = .int .i64 k ∧ Hid (CoinsAt wr g b L s ∧ RowC wr A n X ∧ OwnP wr w.heap.size A2 n c2 ks ∧ Below w.heap.size w wr)) (fun iv _ => n - (intOf iv).toNat)
  case atStart => exact ⟨0, by omega, rfl, Lib.hid ⟨HC.out, HX.out, HV.out, HB.out⟩⟩
  case round =>
    obtain ⟨k, hk, rfl, hI⟩ := hrel
    clear HC HX HV HB
    have HC := Lib.hid hI.out.1; have HX := Lib.hid hI.out.2.1; have HV := Lib.hid hI.out.2.2.1; have HB := Lib.hid hI.out.2.2.2
    clear hI
    rename World => w_
    by_cases hlt : k < n
    · obtain ⟨x, hx⟩ : ∃ x, ks[k]? = some x := ⟨_, List.getElem?_eq_getElem (by have := HV.out.len; omega)⟩
      obtain ⟨bx, off, p, rfl, hbl, hp, hok, hcc⟩ := HX.out.at_ hlt
      have hxp : x.1 = p.1 := by
        have h1 := congrArg (fun l => l[k]?) HKX.out
        simp only [List.getElem?_map, hx, hp, Option.map_some] at h1
        exact Option.some.inj h1
      have hmem := List.mem_of_getElem? hp
      have hlk : lookC L p.1 = some p.2 := lookC_eq HR.out.ok.2 (HR.out.perm.mem_iff.1 hmem)
      obtain ⟨g0, cur, hA, _, _, _, _, hbk, _, _⟩ := HV.out.form (by omega)
      subst hA
      have HGET := Lib.hid (fun w' (h' : CoinsAt w' g b L s) => show Calls Try.prog 33 #[.pointer (some ⟨g, 0, none⟩), .agg (ptV p.1).toArray] w' fun e w'' => e = .returned (.tuple #[.agg (coinV p.2).toArray, .bool true]) ∧ Below w'.heap.size w' w'' from by have := get_any g b L s p.1 w' h' hok.1; rw [hlk] at this; exact this)
      have HMC := Lib.hid (show ∀ w', Below w_.heap.size w_ w' → ∀ j u, (ptV p.1)[j]? = some u → w'.cell? ⟨g0, k * 33 + j, none⟩ = some u from fun w' hb j u hu => by
        have h1 := HV.out.at_ hx j u (by unfold encPt; rw [hxp]; exact hu)
        exact bcell hb h1)
      have HML := Lib.hid (show ∀ w', Below w_.heap.size w_ w' → ∀ j u, (ptV p.1)[j]? = some u → w'.cell? ⟨bx, off + k * 66 + j, none⟩ = some u from fun w' hb j u hu => by
        have h1 := hcc (0 + j) u (encAtC_pt hok hu)
        rw [Nat.zero_add] at h1
        exact bcell hb h1)
      have HMO := Lib.hid (show ∀ w', Below w_.heap.size w_ w' → ∀ j u, (coinV p.2)[j]? = some u → w'.cell? ⟨bx, off + k * 66 + 33 + j, none⟩ = some u from fun w' hb j u hu => by
        have h1 := hcc (33 + j) u (encAtC_coin hok hu)
        rw [← Nat.add_assoc] at h1
        exact bcell hb h1)
      have HPC := Lib.hid (ptV_cl hok.1); have HCC := Lib.hid (coinV_cl hok.2)
      have HQP := Lib.hid (pt_self p.1 hok.1); have HQC := Lib.hid (coin_self p.2 hok.2)
      obtain ⟨es, hes⟩ : ∃ q, q = ptV p.1 := ⟨_, rfl⟩
      obtain ⟨cs, hcs⟩ : ∃ q, q = coinV p.2 := ⟨_, rfl⟩
      rw [← hes] at HPC HMC HML HQP HGET
      rw [← hcs] at HCC HMO HQC HGET
      clear hx hp hxp hmem hok hlk hbk hes hcs hcc hbl
      obtain ⟨wq, hwq⟩ : ∃ q, q = w_ := ⟨_, rfl⟩
      have HW := Lib.hid (show Gw wq w_ by rw [hwq]; exact Gw.refl _)
      have HM0 := Lib.hid (HMC.out w_ (Below.refl _ _))
      rw [← hwq] at HMC HML HMO
      clear hwq
      go_wp2_with (first | (with_reducible refine wpl_loadm (o := ⟨some 44, _, _, _, _, _⟩) rfl rfl row_point HM0.out rfl HPC.out.len ?_))
      refine Calls.mono (show Calls Try.prog 33 _ w_ _ from HGET.out w_ HC.out) ?_
      rintro e w_ ⟨rfl, hb_⟩
      have HB_ := Lib.hid (HB.out.grow' hb_)
      clear HB
      have HB := HB_
      clear HB_
      have HC_ := Lib.hid (HC.out.grow hb_)
      clear HC
      have HC := HC_
      clear HC_
      have HX_ := Lib.hid (HX.out.grow hb_)
      clear HX
      have HX := HX_
      clear HX_
      have HV_ := Lib.hid (HV.out.grow hb_)
      clear HV
      have HV := HV_
      clear HV_
      have HW_ := Lib.hid (HW.out.grow hb_)
      clear HW
      have HW := HW_
      clear HW_
      clear hb_
      clear HM0 HGET
      go_wp2_with (first | (with_reducible refine wpl_alloc (o := ⟨some 7, _, _, _, _, _⟩) rfl rfl zero_coin ?_))
      intro w1_ hb1_ hbw1_ hsz1_
      have HB1_ := Lib.hid (at_mk hb1_ len_coin)
      have HBW1_ := Lib.hid hbw1_
      have HZ1_ := Lib.hid hsz1_
      clear hb1_ hbw1_ hsz1_
      go_wp2_with (first | (with_reducible refine wpl_storeb (o := ⟨none, .store _ _ _, _, _, _, _⟩) rfl rfl row_coin HB1_.out.blk rfl rfl HB1_.out.len HCC.out.len HCC.out.one ?_))
      intro w2_ hb2_ hg2_ hsz2_
      have hb_ := var_grow HBW1_.out HZ1_.out hg2_
      have HX_ := Lib.hid (at_mk hb2_ HCC.out.len)
      clear hb2_ hg2_ hsz2_ HB1_ HBW1_ HZ1_
      have HB_ := Lib.hid (HB.out.grow' hb_)
      clear HB
      have HB := HB_
      clear HB_
      have HC_ := Lib.hid (HC.out.grow hb_)
      clear HC
      have HC := HC_
      clear HC_
      have HX_ := Lib.hid (HX.out.grow hb_)
      clear HX
      have HX := HX_
      clear HX_
      have HV_ := Lib.hid (HV.out.grow hb_)
      clear HV
      have HV := HV_
      clear HV_
      have HW_ := Lib.hid (HW.out.grow hb_)
      clear HW
      have HW := HW_
      clear HW_
      generalize hg_ : w_.heap.size = g7 at HX_ ⊢
      clear hg_
      have HD := HX_
      clear hb_ HX_
      clear w1_
      try clear w_
      rename World => w_
      go_wp2_with fail
      repeat' (first | (with_reducible refine wp_phase (id := 10) (fun (_ : Nat) w' => Below w_.heap.size w_ w') [] [(0,0),(0,0),(0,0),(0,0),(0,0),(0,0),(0,0),(0,0),(0,0),(0,0),(0,0),(0,0),(0,0),(0,0),(0,0),(0,0),(0,0),(0,0),(0,0),(0,0),(0,0),(0,0),(0,0)] (by kernel_rfl) (by kernel_rfl) ?_ ?_) | go_values | go_skip | go_guarded | go_step | go_upon | go_back)
      · exact Drawn.all (Drawn.one w_)
      refine ph_value rfl (by first | rfl | go_simp) (fun k_ _ _ w_ hC_ => by first | (go_simp; rfl) | (go_simp; done) | rfl) (fun K hK => ?_)
      go_simp
      refine hK _ ?_
      clear hK K
      refine ph_value rfl (by first | rfl | go_simp) (fun k_ _ _ w_ hC_ => by first | (go_simp; rfl) | (go_simp; done) | rfl) (fun K hK => ?_)
      go_simp
      refine hK _ ?_
      clear hK K
      refine ph_value rfl (by first | rfl | go_simp) (fun k_ _ _ w_ hC_ => by first | (go_simp; rfl) | (go_simp; done) | rfl) (fun K hK => ?_)
      go_simp
      refine hK _ ?_
      clear hK K
      refine ph_loadmk rfl (by first | rfl | go_simp) rfl row_point (fun k _ _ w h j u hu => HMC.out w (HW.out.grow h) j u hu) (by first | rfl | (go_simp; done)) HPC.out.len ?_
      (intro K hK; go_simp; refine hK _ ?_; clear hK K)
      refine ph_value rfl (by first | rfl | go_simp) (fun k_ _ _ w_ hC_ => by first | (go_simp; rfl) | (go_simp; done) | rfl) (fun K hK => ?_)
      go_simp
      refine hK _ ?_
      clear hK K
      refine ph_value rfl (by first | rfl | go_simp) (fun k_ _ _ w_ hC_ => by first | (go_simp; rfl) | (go_simp; done) | rfl) (fun K hK => ?_)
      go_simp
      refine hK _ ?_
      clear hK K
      refine ph_value rfl (by first | rfl | go_simp) (fun k_ _ _ w_ hC_ => by first | (go_simp; rfl) | (go_simp; done) | rfl) (fun K hK => ?_)
      go_simp
      refine hK _ ?_
      clear hK K
      refine ph_value rfl (by first | rfl | go_simp) (fun k_ _ _ w_ hC_ => by first | (go_simp; rfl) | (go_simp; done) | rfl) (fun K hK => ?_)
      go_simp
      refine hK _ ?_
      clear hK K
      refine ph_loadmk rfl (by first | rfl | go_simp) rfl row_point (fun k _ _ w h j u hu => HML.out w (HW.out.grow h) j u hu) (by first | rfl | (go_simp; done)) HPC.out.len ?_
      (intro K hK; go_simp; refine hK _ ?_; clear hK K)
      have heq := HQP.out
      refine ph_value rfl (by first | rfl | go_simp) (fun k_ _ _ w_ hC_ => by first | (go_simp; rfl) | (go_simp; done) | rfl) (fun K hK => ?_)
      go_simp
      refine hK _ ?_
      clear hK K
      clear heq
      refine ph_value rfl (by first | rfl | go_simp) (fun k_ _ _ w_ hC_ => by first | (go_simp; rfl) | (go_simp; done) | rfl) (fun K hK => ?_)
      go_simp
      refine hK _ ?_
      clear hK K
      refine ph_value rfl (by first | rfl | go_simp) (fun k_ _ _ w_ hC_ => by first | (go_simp; rfl) | (go_simp; done) | rfl) (fun K hK => ?_)
      go_simp
      refine hK _ ?_
      clear hK K
      refine ph_value rfl (by first | rfl | go_simp) (fun k_ _ _ w_ hC_ => by first | (go_simp; rfl) | (go_simp; done) | rfl) (fun K hK => ?_)
      go_simp
      refine hK _ ?_
      clear hK K
      refine ph_value rfl (by first | rfl | go_simp) (fun k_ _ _ w_ hC_ => by first | (go_simp; rfl) | (go_simp; done) | rfl) (fun K hK => ?_)
      go_simp
      refine hK _ ?_
      clear hK K
      refine ph_value rfl (by first | rfl | go_simp) (fun k_ _ _ w_ hC_ => by first | (go_simp; rfl) | (go_simp; done) | rfl) (fun K hK => ?_)
      go_simp
      refine hK _ ?_
      clear hK K
      refine ph_load rfl (by first | rfl | go_simp) rfl row_coin (fun k _ _ w h => HD.out.blk.call h) rfl HCC.out.len ?_
      (intro K hK; go_simp; refine hK _ ?_; clear hK K)
      refine ph_value rfl (by first | rfl | go_simp) (fun k_ _ _ w_ hC_ => by first | (go_simp; rfl) | (go_simp; done) | rfl) (fun K hK => ?_)
      go_simp
      refine hK _ ?_
      clear hK K
      refine ph_value rfl (by first | rfl | go_simp) (fun k_ _ _ w_ hC_ => by first | (go_simp; rfl) | (go_simp; done) | rfl) (fun K hK => ?_)
      go_simp
      refine hK _ ?_
      clear hK K
      refine ph_value rfl (by first | rfl | go_simp) (fun k_ _ _ w_ hC_ => by first | (go_simp; rfl) | (go_simp; done) | rfl) (fun K hK => ?_)
      go_simp
      refine hK _ ?_
      clear hK K
      refine ph_value rfl (by first | rfl | go_simp) (fun k_ _ _ w_ hC_ => by first | (go_simp; rfl) | (go_simp; done) | rfl) (fun K hK => ?_)
      go_simp
      refine hK _ ?_
      clear hK K
      refine ph_loadmk rfl (by first | rfl | go_simp) rfl row_coin (fun k _ _ w h j u hu => HMO.out w (HW.out.grow h) j u hu) (by first | rfl | (go_simp; done)) HCC.out.len ?_
      (intro K hK; go_simp; refine hK _ ?_; clear hK K)
      have heq := HQC.out
      refine ph_value rfl (by first | rfl | go_simp) (fun k_ _ _ w_ hC_ => by first | (go_simp; rfl) | (go_simp; done) | rfl) (fun K hK => ?_)
      go_simp
      refine hK _ ?_
      clear hK K
      clear heq
      refine ph_value rfl (by first | rfl | go_simp) (fun k_ _ _ w_ hC_ => by first | (go_simp; rfl) | (go_simp; done) | rfl) (fun K hK => ?_)
      go_simp
      refine hK _ ?_
      clear hK K
      refine ph_nil ?_
      intro w3_ hb_
      replace HC := Lib.hid (HC.out.grow hb_); replace HX := Lib.hid (HX.out.grow hb_); replace HV := Lib.hid (HV.out.grow hb_); replace HB := Lib.hid (HB.out.grow' hb_)
      clear hb_ HD HW HMC HML HMO
      try clear w_
      rename World => w_
      go_wp2_with fail
      go_roundw
      case rel => exact ⟨k + 1, by omega, by go_num, Lib.hid ⟨HC.out, HX.out, HV.out, HB.out⟩⟩
      case measure => simp [intOf]; omega
    · obtain rfl : k = n := by omega
      have HTR := Lib.hid (fun w' (h' : RowC w' A k X) => rbytes19_any (c := c) w' h' hn256 HR.out.ixX)
      have HGG := Lib.hid (show g < w_.heap.size ∧ b < w_.heap.size from ⟨HC.out.ltg, HC.out.ltb⟩)
      have HP1 := Lib.hid (fun gp w' (h' : CoinsAt w' g b L s) hp (h1 : g < gp) (h2 : b < gp) => cput1_any g b gp X L s w' h' HR.out hp h1 h2)
      have HLO := Lib.hid (bytesC_le (by rw [HXN.out]; exact hn256) HR.out.okX HR.out.ixX)
      obtain ⟨out, hout⟩ : ∃ q, q = bytesC X := ⟨_, rfl⟩
      rw [← hout] at HTR HP1 HLO
      clear hout HV
      go_wp2_with (first | (with_reducible refine wpl_alloc (o := ⟨some 9, _, _, _, _, _⟩) rfl rfl zero_penC ?_))
      intro w4 hb4 hbw4 hsz4
      obtain ⟨gp, hgp⟩ : ∃ q, q = w_.heap.size := ⟨_, rfl⟩
      rw [← hgp] at hb4 hsz4 HGG ⊢
      have HP := Lib.hid (show PenAt w4 (KR gp 0 0) gp [] from PenAt.new hb4 (fun j hj => by rcases hj with h | h <;> omega))
      have HC4 := Lib.hid (HC.out.call hbw4); have HX4 := Lib.hid (HX.out.call hbw4)
      have HXB := Lib.hid (show Sl w_ gp 66 A k (X.flatMap encAtC) by rw [hgp]; exact HX.out.1)
      have HB4 := Lib.hid (show Below w.heap.size w w4 from HB.out.trans (hbw4.mono HB.out.size))
      have HGP := Lib.hid (show w.heap.size ≤ gp by rw [hgp]; exact HB.out.size)
      have HGW := Lib.hid (show Below gp w_ w4 by rw [hgp]; exact hbw4)
      clear hb4 hbw4 hsz4 HC HX HB hgp
      go_wp2_with fail
      refine (HP1.out gp w4 HC4.out HP.out HGG.out.1 HGG.out.2).mono ?_
      rintro e w5 ⟨rfl, hp5, hb5⟩
      have HP5 := Lib.hid hp5
      have HB5 := Lib.hid (show Below w.heap.size w w5 from HB4.out.trans (hb5.mono HGP.out))
      have HX5 := Lib.hid (show RowC w5 A k X from ⟨(HXB.out.below (HGW.out.trans hb5)).more (by have := HP.out.lt; have := hb5.size; omega), HX4.out.2⟩)
      clear hp5 hb5 HP HC4 HX4 HB4 HXB HGW HP1
      have HPB := Lib.hid (fun (hl : out.length ≤ 1000000) => pbytes_any gp (KR gp 0 0) out w5 HP5.out hl)
      have hlo := HLO.out
      go_wp2_with fail
      refine (HPB.out (by have := HLO.out; omega)).mono ?_
      rintro e w6 ⟨A6, c6, rfl, ho6, hc6, hb6⟩
      have HO6 := Lib.hid (Sl.of_own ho6)
      have HB6 := Lib.hid (show Below w.heap.size w w6 from HB5.out.grow' hb6)
      have HX6 := Lib.hid (HX5.out.grow hb6)
      clear ho6 hc6 hb6 HP5 HX5 HB5 HPB
      go_wp2_with fail
      refine (HTR.out w6 HX6.out).mono ?_
      rintro e w7 ⟨A7, c7, rfl, hs7, hc7, hl7, hb7⟩
      have HO7 := Lib.hid (show Sl w7 w7.heap.size 1 A6 out.length (out.map B) from (HO6.out.below hb7).more hb7.size)
      have HS7 := Lib.hid hs7
      have HB7 := Lib.hid (show Below w.heap.size w w7 from HB6.out.grow' hb7)
      clear hs7 hc7 hl7 hb7 HX6 HO6 HB6 HTR
      go_wp2_with fail
      refine (bytesq_any (res := true) (by simp) w7 HO7.out HS7.out (by have := HLO.out; omega)).mono ?_
      rintro e w8 ⟨rfl, hb8⟩
      have HB8 := Lib.hid (show Below w.heap.size w w8 from HB7.out.grow' hb8)
      clear hb8
      go_wp2_with fail
      go_ret
      exact ⟨rfl, HB8.out⟩
end Go.Proofs.Ytolbbhbfbpiljaa

/- Arguments opened: slices, of whatever elements; slices of bytes, of slices of bytes, of digests. -/
namespace Go.Proofs.Ytolbbhbfbpiljaa
open Go.RowKit Go.ChangeShapes Go.WideShapes Go.Deep
set_option linter.unusedVariables false
section
variable {H : Type} {enc : TypeId × Value → H} {P : Program} {w : World} {r : Reach} {b0 base : Nat} {spare : Nat → Bool} {held : Bool}

theorem flat_len {α : Type} {f : α → List Value} {sz : Nat} : ∀ {l : List α}, (∀ x ∈ l, (f x).length = sz) → (l.flatMap f).length = l.length * sz
  | [], _ => by simp
  | x :: l, h => by
    rw [List.flatMap_cons, List.length_append, h x (by simp), flat_len (l := l) (fun y hy => h y (by simp [hy])), List.length_cons, Nat.succ_mul, Nat.add_comm]
theorem flat_at {α : Type} {f : α → List Value} {sz : Nat} : ∀ {l : List α}, (∀ x ∈ l, (f x).length = sz) → 0 < sz → ∀ {j : Nat} {u : Value}, (l.flatMap f)[j]? = some u → ∃ x, l[j / sz]? = some x ∧ (f x)[j % sz]? = some u
  | [], _, _, j, u, hu => by simp at hu
  | x :: l, h, h0, j, u, hu => by
    rw [List.flatMap_cons] at hu
    have hx := h x (by simp)
    by_cases hj : j < sz
    · rw [List.getElem?_append_left (by omega)] at hu
      refine ⟨x, by rw [Nat.div_eq_of_lt hj]; rfl, by rw [Nat.mod_eq_of_lt hj]; exact hu⟩
    · rw [List.getElem?_append_right (by omega), hx] at hu
      obtain ⟨y, h1, h2⟩ := flat_at (l := l) (fun y hy => h y (by simp [hy])) h0 hu
      have e1 : j / sz = (j - sz) / sz + 1 := by rw [← Nat.div_eq_sub_div h0 (by omega)]
      have e2 : j % sz = (j - sz) % sz := by rw [Nat.mod_eq_sub_mod (by omega)]
      exact ⟨y, by rw [e1, List.getElem?_cons_succ]; exact h1, by rw [e2]; exact h2⟩

/-- A slice that came in, of elements whose cells are 'f x'. -/
theorem open_list0 {α : Type} [Inhabited α] (f : α → List Value) (ok : α → Prop) {t e : TypeId} {fuel : Nat} {cs : List Value} {y : DataW H × List MemPlace} {sz : Nat} (ht : P.underlying t = some (.slice e)) (hce : P.cellsOf e = sz) (hsz : 0 < sz)
    (helem : ∀ fuel cs y, cs.length = sz → DataW.trod enc P w base spare held fuel e cs = some y → ∃ x, cs = f x ∧ ok x)
    (hf : DataW.trod enc P w base spare held fuel t cs = some y) :
    ∃ A n c, ∃ l : List α, cs = [.slice A n c] ∧ l.length = n ∧ n ≤ c ∧ c ≤ maxLen ∧ Sl w w.heap.size sz A n (l.flatMap f) ∧ (∀ x ∈ l, ok x) ∧ (∀ x ∈ l, (f x).length = sz) := by
  rcases open_slice ht hf with ⟨hcs, _⟩ | ⟨a, n, c, m, k, D, Pl, hcs, _, hl, hm, hmm, _, hx⟩
  · subst hcs
    exact ⟨none, 0, 0, [], rfl, rfl, Nat.le_refl _, Nat.zero_le _, ⟨by simp, fun h => absurd h (by omega)⟩, by simp, by simp⟩
  · subst hcs
    have hle : n ≤ m := by rw [hmm]; split <;> omega
    rw [hce] at hx
    obtain ⟨X, hX⟩ := choose_lt (n := n) (p := fun i (x : α) => w.cells? base (a.add (i * sz)) sz = some (f x) ∧ (f x).length = sz ∧ ok x) (fun i hi => by
      obtain ⟨cs', h1, h2⟩ := hx i (by omega)
      obtain ⟨_, hlen, _⟩ := World.cells?_some h1
      obtain ⟨x, e, hok⟩ := helem _ _ _ hlen h2
      exact ⟨x, by rw [← e]; exact h1, by rw [← e]; exact hlen, hok⟩)
    have hlen : ∀ x ∈ (List.range n).map X, (f x).length = sz := by
      intro x hx
      obtain ⟨i, hi, rfl⟩ := List.mem_map.1 hx
      exact (hX i (by simpa using hi)).2.1
    refine ⟨some a, n, c, (List.range n).map X, rfl, by simp, hl, hm, ⟨by rw [flat_len hlen]; simp, fun hn => ?_⟩, ?_, hlen⟩
    · obtain ⟨b, off, spot⟩ := a
      obtain ⟨_, _, h0⟩ := World.cells?_some (hX 0 hn).1
      have h00 := h0 0 hsz
      have hc0 : ∃ u, w.cell? ((Addr.add ⟨b, off, spot⟩ (0 * sz)).add 0) = some u := ⟨_, by rw [h00, List.getElem?_eq_getElem (by rw [(hX 0 hn).2.1]; exact hsz)]⟩
      obtain ⟨u0, hu0⟩ := hc0
      have hspot : spot = none := by simpa [Addr.add] using World.cell?_spot hu0
      subst hspot
      refine ⟨b, off, rfl, by have := World.block_lt_of_cell? w _ hu0; simpa [Addr.add] using this, fun j u hu => ?_⟩
      obtain ⟨x, h1, h2⟩ := flat_at hlen hsz hu
      rw [List.getElem?_map] at h1
      obtain ⟨i, h3, rfl⟩ := Option.map_eq_some_iff.1 h1
      have hi : j / sz = i ∧ i < n := by
        rcases Nat.lt_or_ge (j / sz) n with hl | hl
        · rw [List.getElem?_range hl] at h3; cases h3; exact ⟨rfl, hl⟩
        · rw [List.getElem?_eq_none (by simpa using hl)] at h3; cases h3
      obtain ⟨_, _, hc⟩ := World.cells?_some (hX i hi.2).1
      have := hc (j % sz) (Nat.mod_lt _ hsz)
      rw [h2, Addr.add_lit, Addr.add_lit] at this
      rw [← this, ← hi.1]
      have := Nat.div_add_mod j sz
      have e : off + j = off + j / sz * sz + j % sz := by rw [Nat.mul_comm] at this; omega
      rw [e]
    · intro x hx
      obtain ⟨i, hi, rfl⟩ := List.mem_map.1 hx
      exact (hX i (by simpa using hi)).2.2

theorem open_list {α : Type} [Inhabited α] (f : α → List Value) (ok : α → Prop) {t e : TypeId} {v : Value} {d : DataW H} {ps : List MemPlace} {sz : Nat} (ht : P.underlying t = some (.slice e)) (hce : P.cellsOf e = sz) (hsz : 0 < sz)
    (helem : ∀ fuel cs y, cs.length = sz → DataW.trod enc P w base spare held fuel e cs = some y → ∃ x, cs = f x ∧ ok x)
    (hval : Value.okWide P w r b0 t v) (h : DataW.Trod enc P w base spare held t v d ps) :
    ∃ A n c, ∃ l : List α, v = .slice A n c ∧ l.length = n ∧ n ≤ c ∧ c ≤ maxLen ∧ Sl w w.heap.size sz A n (l.flatMap f) ∧ (∀ x ∈ l, ok x) ∧ (∀ x ∈ l, (f x).length = sz) := by
  obtain ⟨A, n, c, rfl⟩ := okWide_slice ht hval
  obtain ⟨fuel, hf⟩ := h
  obtain ⟨A', n', c', l, h1, hr⟩ := open_list0 f ok ht hce hsz helem hf
  have h1 : A = A' ∧ n = n' ∧ c = c' := by simpa [Value.cells] using h1
  obtain ⟨rfl, rfl, rfl⟩ := h1
  exact ⟨A, n, c, l, rfl, hr⟩

theorem flat_one {α : Type} (g : α → Value) (l : List α) : l.flatMap (fun x => [g x]) = l.map g := by
  induction l with
  | nil => rfl
  | cons x l ih => simp [ih]

theorem trod_u8 {e : TypeId} (he : P.underlying e = some (.int .u8)) {fuel : Nat} {cs : List Value} {y : DataW H × List MemPlace} (h : DataW.trod enc P w base spare held fuel e cs = some y) : ∃ x : UInt8, cs = [B x] ∧ True := by
  obtain ⟨z, h1, _, h2⟩ := DataW.trod_int he h
  have hz := bounds_u8 h2
  refine ⟨UInt8.ofNat z.toNat, ?_, trivial⟩
  rw [h1]
  simp only [B, b8]
  congr 2
  rw [UInt8.toNat_ofNat']; omega
theorem open_u8s0 {t e : TypeId} {fuel : Nat} {cs : List Value} {y : DataW H × List MemPlace} (ht : P.underlying t = some (.slice e)) (he : P.underlying e = some (.int .u8)) (hce : P.cellsOf e = 1) (h : DataW.trod enc P w base spare held fuel t cs = some y) :
    ∃ A n c, ∃ bs : List UInt8, cs = [.slice A n c] ∧ Sl w w.heap.size 1 A n (bs.map B) ∧ n ≤ c ∧ c ≤ maxLen ∧ bs.length = n := by
  obtain ⟨A, n, c, l, h1, h2, h3, h4, h5, _⟩ := open_list0 (fun x : UInt8 => [B x]) (fun _ => True) ht hce (by omega) (fun fuel cs y _ h => trod_u8 he h) h
  exact ⟨A, n, c, l, h1, by rw [← flat_one]; exact h5, h3, h4, h2⟩
theorem open_u8s {t e : TypeId} {v : Value} {d : DataW H} {ps : List MemPlace} (ht : P.underlying t = some (.slice e)) (he : P.underlying e = some (.int .u8)) (hce : P.cellsOf e = 1) (hval : Value.okWide P w r b0 t v) (h : DataW.Trod enc P w base spare held t v d ps) :
    ∃ A n c, ∃ bs : List UInt8, v = .slice A n c ∧ Sl w w.heap.size 1 A n (bs.map B) ∧ n ≤ c ∧ c ≤ maxLen := by
  obtain ⟨A, n, c, l, h1, h2, h3, h4, h5, _⟩ := open_list (fun x : UInt8 => [B x]) (fun _ => True) ht hce (by omega) (fun fuel cs y _ h => trod_u8 he h) hval h
  exact ⟨A, n, c, l, h1, by rw [← flat_one]; exact h5, h3, h4⟩
end
end Go.Proofs.Ytolbbhbfbpiljaa

/- Arguments opened: outputs, coins, lists of acts of coins. -/
namespace Go.Proofs.Ytolbbhbfbpiljaa
open Go.RowKit Go.ChangeShapes Go.WideShapes
set_option linter.unusedVariables false
set_option maxRecDepth 100000
theorem gotA {α : Type} {o : Option α} {xs : List α} {i : Nat} (h : o = xs[i]?) (hi : i < xs.length) : ∃ y, o = some y := ⟨_, h.trans (List.getElem?_eq_getElem hi)⟩
theorem cutA {xs : List Value} {o n : Nat} {l rest : List Value} (h : (xs.drop o).take n = l) (hr : xs.drop (o + n) = rest) : xs.drop o = l ++ rest := by
  rw [← List.take_append_drop n (xs.drop o), h, List.drop_drop, hr]
theorem fm_atA {α : Type} (f : α → List Value) (sz : Nat) : ∀ (l : List α) (k j : Nat) (x : α) (u : Value), (∀ y ∈ l, (f y).length = sz) → l[k]? = some x → (f x)[j]? = some u → (l.flatMap f)[k * sz + j]? = some u
  | [], k, j, x, u, _, hk, _ => by simp at hk
  | y :: l, 0, j, x, u, hl, hk, hu => by
    simp at hk; subst hk
    rw [List.flatMap_cons, Nat.zero_mul, Nat.zero_add, List.getElem?_append_left (List.getElem?_eq_some_iff.1 hu).1]; exact hu
  | y :: l, k + 1, j, x, u, hl, hk, hu => by
    have h1 := hl y (List.mem_cons_self ..)
    rw [List.flatMap_cons, List.getElem?_append_right (by rw [h1, Nat.add_mul]; omega), h1, show (k + 1) * sz + j - sz = k * sz + j by rw [Nat.add_mul]; omega]
    exact fm_atA f sz l k j x u (fun z hz => hl z (List.mem_cons_of_mem _ hz)) (by simpa using hk) hu
section
variable {H : Type} {enc : TypeId × Value → H} {w : World} {r : Reach} {b0 base : Nat} {spare : Nat → Bool} {held : Bool}
theorem trod_ptk {fuel : Nat} {cs : List Value} {y : DataW H × List MemPlace} (hl0 : cs.length = 33) (hf : DataW.trod enc Try.prog w base spare held fuel 52 cs = some y) : ∃ p : PtK, cs = ptV p ∧ PtOK p := by
  obtain ⟨xs, n, _, _, hl, hxs, hg⟩ := DataW.trod_struct Try.underlying52 hf
  replace hg := fun i f h => hg i f h
  have hxs5 : xs.length = 2 := hxs
  obtain ⟨y0, h0⟩ := gotA (hg 0 _ rfl) (by omega)
  obtain ⟨y1, h1⟩ := gotA (hg 1 _ rfl) (by omega)
  replace h0 : DataW.trod enc Try.prog w base spare held n 29 ((cs.drop 0).take (Try.prog.cellsOf 29)) = some y0 := h0
  replace h1 : DataW.trod enc Try.prog w base spare held n 3 ((cs.drop 32).take (Try.prog.cellsOf 3)) = some y1 := h1
  rw [cells_id] at h0
  rw [cells_int] at h1
  obtain ⟨d0, e0, l0⟩ := trod_bytes Try.underlying29 Try.underlying5 cells_u8 cells_id h0
  obtain ⟨z1, e1, _, w1⟩ := DataW.trod_int Try.underlying3 h1
  refine ⟨(d0, z1), ?_, l0, w1⟩
  have a2 : cs.drop 33 = [] := List.drop_of_length_le (by omega)
  have a1 := cutA e1 a2
  have a0 := cutA e0 a1
  rw [List.drop_zero] at a0
  rw [a0]; simp [ptV]
theorem trod_coinv {fuel : Nat} {cs : List Value} {y : DataW H × List MemPlace} (hl0 : cs.length = 33) (hf : DataW.trod enc Try.prog w base spare held fuel 54 cs = some y) : ∃ c : CoinV, cs = coinV c ∧ CoinOK c := by
  obtain ⟨xs, n, _, _, hl, hxs, hg⟩ := DataW.trod_struct Try.underlying54 hf
  replace hg := fun i f h => hg i f h
  have hxs5 : xs.length = 2 := hxs
  obtain ⟨y0, h0⟩ := gotA (hg 0 _ rfl) (by omega)
  obtain ⟨y1, h1⟩ := gotA (hg 1 _ rfl) (by omega)
  replace h0 : DataW.trod enc Try.prog w base spare held n 29 ((cs.drop 0).take (Try.prog.cellsOf 29)) = some y0 := h0
  replace h1 : DataW.trod enc Try.prog w base spare held n 30 ((cs.drop 32).take (Try.prog.cellsOf 30)) = some y1 := h1
  rw [cells_id] at h0
  rw [cells_u64] at h1
  obtain ⟨d0, e0, l0⟩ := trod_bytes Try.underlying29 Try.underlying5 cells_u8 cells_id h0
  obtain ⟨z1, e1, _, w1⟩ := DataW.trod_int Try.underlying30 h1
  refine ⟨(d0, z1), ?_, l0, by simpa [Lit.wf, IntKind.min, IntKind.max, IntKind.signed, IntKind.bits] using w1⟩
  have a2 : cs.drop 33 = [] := List.drop_of_length_le (by omega)
  have a1 := cutA e1 a2
  have a0 := cutA e0 a1
  rw [List.drop_zero] at a0
  rw [a0]; simp [coinV]
end
abbrev ActC := Int × PtK × CoinV
def actC (a : ActC) : List Value := .int .i64 a.1 :: (ptV a.2.1 ++ coinV a.2.2)
def ActCOK (a : ActC) : Prop := PtOK a.2.1 ∧ CoinOK a.2.2
theorem actC_len {a : ActC} (h : ActCOK a) : (actC a).length = 67 := by unfold actC; rw [List.length_cons, List.length_append, ptV_length h.1.1, coinV_length h.2]
theorem cells_actc : Try.prog.cellsOf 70 = 67 := by kernel_rfl
theorem cells_coina : Try.prog.cellsOf 54 = 33 := by kernel_rfl
theorem row_actc : RowT Try.prog 70 67 := ⟨_, Try.underlying70, by kernel_rfl, by kernel_rfl⟩
def zAct : ActC := (0, (List.replicate 32 0, 0), noCoin)
theorem zero_actc : (Try.prog.info? 70).map (·.zero) = some (some (.agg (actC zAct).toArray)) := by kernel_rfl
theorem zAct_ok : ActCOK zAct := ⟨⟨by simp [zAct], by decide⟩, noCoin_ok⟩
theorem len_actc : (actC zAct).length = 67 := actC_len zAct_ok
instance : Inhabited ActC := ⟨zAct⟩
def ActsC (w : World) (A : Option Addr) (n : Nat) (l : List ActC) : Prop := l.length = n ∧ Sl w w.heap.size 67 A n (l.flatMap actC) ∧ ∀ a ∈ l, ActCOK a
theorem ActsC.grow {w w' : World} {A : Option Addr} {n : Nat} {l : List ActC} (h : ActsC w A n l) (k : Below w.heap.size w w') : ActsC w' A n l := ⟨h.1, (h.2.1.below k).more k.size, h.2.2⟩
theorem ActsC.at_ {w : World} {A : Option Addr} {n : Nat} {l : List ActC} (h : ActsC w A n l) {k : Nat} (hk : k < n) : ∃ b off a, A = some ⟨b, off, none⟩ ∧ l[k]? = some a ∧ (∀ j u, (actC a)[j]? = some u → w.cell? ⟨b, off + k * 67 + j, none⟩ = some u) ∧ ActCOK a := by
  obtain ⟨b, off, e, hb, hc⟩ := h.2.1.2 (by omega)
  have hl : k < l.length := by have := h.1; omega
  refine ⟨b, off, l[k], e, List.getElem?_eq_getElem hl, fun j u hu => ?_, h.2.2 _ (List.getElem_mem hl)⟩
  rw [Nat.add_assoc]
  exact hc _ u (fm_atA actC 67 l k j _ u (fun y hy => actC_len (h.2.2 y hy)) (List.getElem?_eq_getElem hl) hu)
theorem actC_pt {a : ActC} {j : Nat} {u : Value} (hu : (ptV a.2.1)[j]? = some u) : (actC a)[1 + j]? = some u := by
  unfold actC; rw [Nat.add_comm, List.getElem?_cons_succ, List.getElem?_append_left (List.getElem?_eq_some_iff.1 hu).1]; exact hu
theorem actC_coin {a : ActC} (h : ActCOK a) {j : Nat} {u : Value} (hu : (coinV a.2.2)[j]? = some u) : (actC a)[34 + j]? = some u := by
  have hl := ptV_length h.1.1
  unfold actC; rw [show 34 + j = (33 + j) + 1 by omega, List.getElem?_cons_succ, List.getElem?_append_right (by omega), hl, show 33 + j - 33 = j by omega]; exact hu
section
variable {H : Type} {enc : TypeId × Value → H} {w : World} {r : Reach} {b0 base : Nat} {spare : Nat → Bool} {held : Bool}
theorem trod_actc {fuel : Nat} {cs : List Value} {y : DataW H × List MemPlace} (hl0 : cs.length = 67) (hf : DataW.trod enc Try.prog w base spare held fuel 70 cs = some y) : ∃ a : ActC, cs = actC a ∧ ActCOK a := by
  obtain ⟨xs, n, _, _, hl, hxs, hg⟩ := DataW.trod_struct Try.underlying70 hf
  replace hg := fun i f h => hg i f h
  have hxs5 : xs.length = 3 := hxs
  obtain ⟨y0, h0⟩ := gotA (hg 0 _ rfl) (by omega)
  obtain ⟨y1, h1⟩ := gotA (hg 1 _ rfl) (by omega)
  obtain ⟨y2, h2⟩ := gotA (hg 2 _ rfl) (by omega)
  replace h0 : DataW.trod enc Try.prog w base spare held n 3 ((cs.drop 0).take (Try.prog.cellsOf 3)) = some y0 := h0
  replace h1 : DataW.trod enc Try.prog w base spare held n 52 ((cs.drop 1).take (Try.prog.cellsOf 52)) = some y1 := h1
  replace h2 : DataW.trod enc Try.prog w base spare held n 54 ((cs.drop 34).take (Try.prog.cellsOf 54)) = some y2 := h2
  rw [cells_int] at h0
  rw [cells_point] at h1
  rw [cells_coina] at h2
  obtain ⟨z0, e0, _, w0⟩ := DataW.trod_int Try.underlying3 h0
  obtain ⟨p, e1, hp⟩ := trod_ptk (by rw [List.length_take, List.length_drop, hl0]; rfl) h1
  obtain ⟨c, e2, hc⟩ := trod_coinv (by rw [List.length_take, List.length_drop, hl0]; rfl) h2
  refine ⟨(z0, p, c), ?_, hp, hc⟩
  have a3 : cs.drop 67 = [] := List.drop_of_length_le (by omega)
  have a2 := cutA e2 a3
  have a1 := cutA e1 a2
  have a0 := cutA e0 a1
  rw [List.drop_zero] at a0
  rw [a0]; simp [actC]
theorem open_actc {v : Value} {d : DataW H} {ps : List MemPlace} (hval : Value.okWide Try.prog w r b0 65 v) (h : DataW.Trod enc Try.prog w base spare held 65 v d ps) :
    ∃ A n c, ∃ l : List ActC, v = .slice A n c ∧ ActsC w A n l ∧ n ≤ 9223372036854775807 := by
  obtain ⟨A, n, c, l, h1, h2, h3, h4, h5, h6, _⟩ := open_list actC ActCOK Try.underlying65 cells_actc (show 0 < 67 by omega) (fun fuel cs y hl h => trod_actc hl h) hval h
  exact ⟨A, n, c, l, h1, ⟨h2, h5, h6⟩, by unfold maxLen at h4; omega⟩
end
end Go.Proofs.Ytolbbhbfbpiljaa

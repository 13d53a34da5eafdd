/- The walk of tx.isTwice. -/
import Derived.Test.YtobmldegjajocaaCommandRateT15
import Derived.Test.YtobmldegjajocaaCommandRateT10
import Derived.Test.YtobmldegjajocaaCommandRateT8
set_option linter.unusedSimpArgs false
/- The walk of tx.isTwice. -/
namespace Go.Proofs.Ytobmldegjajocaa
open Go.RowKit Go.Shelf
set_option linter.unusedVariables false
theorem pt_cells {w : World} {g : Nat} {i : Inp} {v : Value} (hb : Blk w g 105 (inV v i)) (hk : i.ok) : ∀ (j : Nat) (u : Value), (ptKV i.pt)[j]? = some u → w.cell? ⟨g, 0 + j, none⟩ = some u := by
  intro j u hu
  refine hb.at_ (i := 0 + j) ?_
  rw [Nat.zero_add]
  have e : inV v i = ptKV i.pt ++ [.int .u64 i.amount, v] := by simp [inV, ptKV, Inp.pt]
  rw [e, List.getElem?_append_left (List.getElem?_eq_some_iff.1 hu).1]; exact hu
set_option maxRecDepth 100000 in
set_option maxHeartbeats 4000000 in
theorem istwice_any {A : Option Addr} {n c : Nat} {A2 : Option Addr} {n2 c2 : Nat} {fee ex : Int} {l : List (Value × Inp)} {os : List Outp} (w : World) (hi : InsAt w A n c l) (hn : n ≤ 1000000) :
    Calls Try.prog 96 #[.agg (txV A n c A2 n2 c2 fee ex).toArray] w fun e w' => e = .returned (.bool (twiceT ⟨l.map Prod.snd, os, fee, ex⟩)) ∧ Grow w w' := by
  have HI := Lib.hid hi
  have HTC := Lib.hid (txV_cl (A := A) (n := n) (c := c) (A2 := A2) (n2 := n2) (c2 := c2) (fee := fee) (ex := ex))
  have HT0 := Lib.hid (show (txV A n c A2 n2 c2 fee ex)[0]? = some (.slice A n c) from rfl)
  obtain ⟨tv, htv⟩ : ∃ q, q = txV A n c A2 n2 c2 fee ex := ⟨_, rfl⟩
  rw [← htv] at HTC HT0 ⊢
  obtain ⟨ps, hps⟩ : ∃ q, q = (l.map Prod.snd).map Inp.pt := ⟨_, rfl⟩
  have HPS := Lib.hid hps
  have HTW := Lib.hid (show twiceT ⟨l.map Prod.snd, os, fee, ex⟩ = !decide ps.Nodup by rw [hps]; rfl)
  rw [HTW.out]
  have hmm : ∀ w, (Instr.makeMap 171 none).run Try.prog w = .ok (.map (some w.heap.size)) (w.alloc (.map #[] 0)) := fun w => rfl
  obtain ⟨w_, hw⟩ : ∃ x, x = w := ⟨_, rfl⟩
  have HB := Lib.hid (show Below w.heap.size w w_ by rw [hw]; exact Below.refl _ _)
  suffices H : Calls Try.prog 96 #[.agg tv.toArray] w_ fun e w' => e = .returned (.bool (!decide ps.Nodup)) ∧ Grow w w' by rw [hw] at H; exact H
  clear hw hi htv hps
  go_enter Try.func96, Try.ntmps96
  go_wp2_with (first | (with_reducible refine wpl_box (o := ⟨some 1, _, _, _, _, _⟩) rfl rfl rfl ?_))
  intro w2_ hb2_ hb_ hsz2_
  have HX_ := Lib.hid (at_mk hb2_ HTC.out.len)
  clear hb2_ hsz2_
  have HG_ := Lib.hid HB.out.size
  have HB_ := Lib.hid (HB.out.grow' hb_)
  clear HB
  have HB := HB_
  clear HB_
  generalize hg_ : w_.heap.size = g1 at HX_ HG_ ⊢
  clear hg_
  have HX_g := HG_
  clear HG_
  have HX := HX_
  clear hb_ HX_
  try clear w_
  rename World => w_
  go_upto_region 2 with fail
  generalize hw_ : World.alloc w_ _ = w2_
  obtain ⟨b, hb⟩ : ∃ q, q = w_.heap.size := ⟨_, rfl⟩
  have HSN := Lib.hid (show SeenAt w2_ b [] from ⟨⟨#[], 0, by rw [← hw_, hb]; exact heap_alloc_new _ _, MapOK.empty _ _ _, rfl⟩, by simp, by simp⟩)
  have hb_ : Grow w_ w2_ := by rw [← hw_]; exact (Below.refl _ _).alloc (Nat.le_refl _) _
  have HBG := Lib.hid (show w.heap.size ≤ b by rw [hb]; exact HB.out.size)
  rw [← hb]
  have HX_ := Lib.hid (HX.out.grow hb_); have HB_ := Lib.hid (HB.out.grow' hb_)
  clear hw_ hb hb_ HX HB hmm
  have HX := HX_; have HB := HB_
  clear HX_ HB_
  try clear w_
  rename World => w_
  have c0 := HX.out.blk.at_ HT0.out
  go_wp2_with fail
  go_loopw [10] (fun iv wr => ∃ k : Nat, k ≤ n ∧ iv = .int .i64 k ∧ Hid (SeenAt wr b (ps.take k) ∧ Below w.heap.size w wr)) (fun iv _ => n - (intOf iv).toNat)
  case atStart => exact ⟨0, by omega, rfl, Lib.hid ⟨HSN.out, HB.out⟩⟩
  case round =>
    obtain ⟨k, hk, rfl, hI⟩ := hrel
    clear HB HSN HX c0
    have HSN := Lib.hid hI.out.1; have HB := Lib.hid hI.out.2
    clear hI
    rename World => w_
    by_cases hlt : k < n
    · have HII := Lib.hid (HI.out.grow HB.out)
      obtain ⟨b0, off, p, rfl, hp, hok, hc⟩ := HII.out.at_ hlt
      have HC := Lib.hid hc
      have HPC := Lib.hid (inV_cl hok)
      have HOK := Lib.hid hok.2
      have HPK := Lib.hid (show ptKO p.2.pt from ⟨hok.2.1, hok.2.2.1⟩)
      have HPV := Lib.hid (show ps[k]? = some p.2.pt by rw [HPS.out, List.getElem?_map, List.getElem?_map, hp]; rfl)
      have HPT := Lib.hid (fun (w : World) (g : Nat) (h : Blk w g 105 (inV p.1 p.2)) => pt_cells h hok.2)
      obtain ⟨pv, hpv⟩ : ∃ q, q = inV p.1 p.2 := ⟨_, rfl⟩
      rw [← hpv] at HC HPC HPT
      obtain ⟨x, hx⟩ : ∃ q, q = p.2.pt := ⟨_, rfl⟩
      rw [← hx] at HPK HPV HPT
      have HXL := Lib.hid (ptKV_len HPK.out)
      clear hp hok hc hpv hx HII
      go_wp2_with (first | (with_reducible refine wpl_loadm (o := ⟨some 13, _, _, _, _, _⟩) rfl rfl row_tin HC.out rfl HPC.out.len ?_) | (with_reducible refine wpl_alloc (o := ⟨some 5, _, _, _, _, _⟩) rfl rfl zero_tin ?_))
      intro w1_ hb1_ hbw1_ hsz1_
      have HB1_ := Lib.hid (at_mk hb1_ len_tin)
      have HBW1_ := Lib.hid hbw1_
      have HZ1_ := Lib.hid hsz1_
      clear hb1_ hbw1_ hsz1_
      go_wp2_with (first | (with_reducible refine wpl_storeb (o := ⟨none, .store _ _ _, _, _, _, _⟩) rfl rfl row_tin HB1_.out.blk rfl rfl HB1_.out.len HPC.out.len HPC.out.one ?_))
      intro w2_ hb2_ hg2_ hsz2_
      have hb_ := var_grow HBW1_.out HZ1_.out hg2_
      have HX_ := Lib.hid (at_mk hb2_ HPC.out.len)
      clear hb2_ hg2_ hsz2_ HB1_ HBW1_ HZ1_
      have HB_ := Lib.hid (HB.out.grow' hb_)
      clear HB
      have HB := HB_
      clear HB_
      have HSN_ := Lib.hid (HSN.out.grow hb_)
      clear HSN
      have HSN := HSN_
      clear HSN_
      generalize hg_ : w_.heap.size = g5 at HX_ ⊢
      clear hg_
      have HE := HX_
      clear hb_ HX_
      clear w1_
      try clear w_
      rename World => w_
      have HPM := Lib.hid (HPT.out _ _ HE.out.blk)
      have hlk := HSN.out.look HPK.out
      unfold ptKA at hlk
      by_cases hm : x ∈ ps.take k
      · have HND := Lib.hid (show decide ps.Nodup = false by
          rw [decide_eq_false_iff_not]
          intro hnd
          obtain ⟨j, hj, he⟩ := List.getElem_of_mem hm
          rw [List.getElem_take] at he
          rw [List.length_take] at hj
          have hk2 := (List.getElem?_eq_some_iff.1 HPV.out).2
          have := (List.getElem_inj hnd (h₀ := by omega) (h₁ := (List.getElem?_eq_some_iff.1 HPV.out).1)).1 (he.trans hk2.symm)
          omega)
        rw [if_pos hm] at hlk
        clear hm
        go_wp2_with (first | (with_reducible refine wpl_loadm (o := ⟨some 16, _, _, _, _, _⟩) rfl rfl row_point HPM.out rfl HXL.out ?_))
        go_ret
        exact ⟨by rw [HND.out]; rfl, HB.out⟩
      · rw [if_neg hm] at hlk
        have HNM := Lib.hid hm
        clear hm
        go_wp2_with (first | (with_reducible refine wpl_loadm (o := ⟨some 16, _, _, _, _, _⟩) rfl rfl row_point HPM.out rfl HXL.out ?_))
        obtain ⟨es, clock, h3, h4, h5⟩ := HSN.out.map
        obtain ⟨lx, hlx⟩ := keyOf_ptK x HPK.out
        have HGB := Lib.hid (show g5 ≠ b from fun e => by
          have h6 := HE.out.blk
          unfold Blk at h6
          rw [e, h3] at h6
          cases h6)
        have HM3 := Lib.hid h3
        have HNO := Lib.hid (HSN.out.none HPK.out HNM.out h3)
        have HDN := Lib.hid (fun w3 h => seenC.done (w0 := w_) (b := b) (w := w3) h h4 hlx HNO.out h5 HSN.out.ok HPK.out HSN.out.nodup HNM.out)
        have HLO := Lib.hid (fun k w hk h => seenC.look (w0 := w_) (b := b) h4 hlx HNO.out k w hk h)
        have HR0 := Lib.hid (fun w h => seenC.run0 (w0 := w_) (b := b) (w := w) h h4 hlx HNO.out)
        have HR1 := Lib.hid (fun w h => seenC.run1 (w0 := w_) (b := b) (w := w) h h4 hlx HNO.out)
        unfold ptKA at HLO HR0 HR1
        clear h3 h4 h5 hlx hlk
        repeat' (first | (with_reducible refine wp_phase (id := 7) (seenC w_ b es clock x) [5, 7] [(0,2),(0,2),(0,2),(0,1),(0,2),(0,0),(0,2),(1,1)] (by kernel_rfl) (by kernel_rfl) ?_ ?_) | go_values | go_skip | go_guarded | go_step | go_upon | go_back)
        · exact ⟨grown_of_below (Drawn.all (Drawn.one w_)) _, HM3.out⟩
        refine ph_value rfl (by first | rfl | go_simp) (fun k_ _ _ w_ hC_ => by first | (go_simp; rfl) | (go_simp; done) | rfl) (fun K hK => ?_)
        go_simp
        refine hK _ ?_
        clear hK K
        refine ph_value rfl (by first | rfl | go_simp) (fun k_ _ _ w_ hC_ => by first | (go_simp; rfl) | (go_simp; done) | rfl) (fun K hK => ?_)
        go_simp
        refine hK _ ?_
        clear hK K
        refine ph_loadm rfl rfl rfl row_point (fun k _ _ w h => HPT.out w g5 (Blk.grown HE.out.blk (seenC.low k w h) (fun e => HGB.out (Option.some.inj e)))) rfl HXL.out ?_
        (intro K hK; go_simp; refine hK _ ?_; clear hK K)
        refine ph_value rfl (by first | rfl | go_simp) (fun k_ h1_ h2_ w_ hC_ => by have c1 := HLO.out k_ w_ (Nat.le_trans h2_ (by decide)) hC_; first | (go_simp; rfl) | (go_simp; done) | rfl) (fun K hK => ?_)
        go_simp
        refine hK _ ?_
        clear hK K
        refine ph_value rfl (by first | rfl | go_simp) (fun k_ _ _ w_ hC_ => by first | (go_simp; rfl) | (go_simp; done) | rfl) (fun K hK => ?_)
        go_simp
        refine hK _ ?_
        clear hK K
        refine ph_run 0 rfl rfl rfl (by first | rfl | go_simp) (fun w' hC => ⟨_, by (have hrun := HR0.out w' hC); first | (go_simp; rfl) | (go_simp; exact ⟨rfl, rfl⟩) | go_simp, hC.entry⟩) ?_
        (intro K hK; go_simp; refine hK _ ?_; clear hK K)
        refine ph_value rfl (by first | rfl | go_simp) (fun k_ _ _ w_ hC_ => by first | (go_simp; rfl) | (go_simp; done) | rfl) (fun K hK => ?_)
        go_simp
        refine hK _ ?_
        clear hK K
        refine ph_runs 1 rfl rfl rfl (by first | rfl | go_simp) (fun w' hC => ⟨_, by (have hrun := HR1.out w' hC); (have hw1 : IntKind.i64.wrap 1 = 1 := by decide); first | (go_simp; rfl) | (go_simp; exact ⟨rfl, rfl⟩) | go_simp, hC.fill⟩) ?_
        (intro K hK; go_simp; refine hK _ ?_; clear hK K)
        refine ph_nil ?_
        intro w3 h3
        have HS3 := Lib.hid (show SeenAt w3 b (ps.take (k + 1)) by rw [take_snoc HPV.out]; exact HDN.out w3 h3)
        have HB3 := Lib.hid (put_below HB.out HBG.out (seenC.low 2 w3 h3))
        clear h3
        go_wp2_with fail
        go_roundw
        case rel => exact ⟨k + 1, by omega, by go_num, Lib.hid ⟨HS3.out, HB3.out⟩⟩
        case measure => simp [intOf]; omega
    · obtain rfl : k = n := by omega
      have HND := Lib.hid (show decide ps.Nodup = true by
        rw [decide_eq_true_iff]
        have h := HSN.out.nodup
        rw [List.take_of_length_le (by rw [HPS.out, List.length_map, List.length_map]; have := HI.out.2.2.1; omega)] at h
        exact h)
      go_wp2_with fail
      go_ret
      exact ⟨by rw [HND.out]; rfl, HB.out⟩
end Go.Proofs.Ytobmldegjajocaa
/- The contract of tx.Check. -/
namespace Go.Proofs.Ytobmldegjajocaa
open Go.RowKit Go.Shelf
set_option linter.unusedVariables false
theorem OwnU.sl {w : World} {base n c : Nat} {A : Option Addr} {zs : List Value} (h : OwnU w base A n c zs) : Sl w w.heap.size 1 A n zs := Sl.of_own h
set_option maxRecDepth 100000 in
set_option maxHeartbeats 8000000 in
theorem tcheck_any {A : Option Addr} {n c : Nat} {A2 : Option Addr} {n2 c2 : Nat} {fee ex : Int} {l : List (Value × Inp)} {os : List Outp} (w : World) (hi : InsAt w A n c l) (ho : OutsAt w A2 n2 c2 os) (hn : n ≤ 100000) (hn2 : n2 ≤ 100000) (hf : U64 fee) (hex : I64 ex) :
    Calls Try.prog 55 #[.agg (txV A n c A2 n2 c2 fee ex).toArray] w fun e w' => e = .returned (.int .i64 (checkT ⟨l.map Prod.snd, os, fee, ex⟩)) ∧ Grow w w' := by
  have HI := Lib.hid hi; have HO := Lib.hid ho
  have HTC := Lib.hid (txV_cl (A := A) (n := n) (c := c) (A2 := A2) (n2 := n2) (c2 := c2) (fee := fee) (ex := ex))
  have HT2 := Lib.hid (show (txV A n c A2 n2 c2 fee ex)[2]? = some (.int .u64 fee) from rfl)
  have HAM := Lib.hid (fun w hi ho => amounts_any (A := A) (n := n) (c := c) (A2 := A2) (n2 := n2) (c2 := c2) (fee := fee) (ex := ex) (l := l) (os := os) w hi ho (by omega) (by omega))
  have HLG := Lib.hid (fun w hi => islong_any (A := A) (n := n) (c := c) (A2 := A2) (n2 := n2) (c2 := c2) (fee := fee) (ex := ex) (l := l) (os := os) w hi ho.2.2.1 (by omega) (by omega) hex)
  have HTW := Lib.hid (fun w hi => istwice_any (A := A) (n := n) (c := c) (A2 := A2) (n2 := n2) (c2 := c2) (fee := fee) (ex := ex) (l := l) (os := os) w hi (by omega))
  obtain ⟨t, ht⟩ : ∃ t, t = Txn.mk (l.map Prod.snd) os fee ex := ⟨_, rfl⟩
  obtain ⟨lg, hlg⟩ : ∃ q, q = longT t := ⟨_, rfl⟩
  obtain ⟨tw, htw⟩ : ∃ q, q = twiceT t := ⟨_, rfl⟩
  rw [← ht, ← hlg] at HLG
  rw [← ht, ← htw] at HTW
  have e1 : t.ins.map Inp.amount = amI l := by rw [ht]; simp [amI]
  have e2 : t.outs.map Outp.amount = amO os := by rw [ht]; rfl
  have e3 : t.fee = fee := by rw [ht]
  have HP1 := Lib.hid (show ∀ z ∈ amI l, 0 ≤ z from fun z hz => by obtain ⟨p, hp, rfl⟩ := List.mem_map.1 hz; exact (hi.2.1 p hp).2.2.2.1)
  have HP2 := Lib.hid (show ∀ z ∈ amO os ++ [fee], 0 ≤ z from fun z hz => by
    rcases List.mem_append.1 hz with h | h
    · obtain ⟨p, hp, rfl⟩ := List.mem_map.1 h; exact (ho.2.1 p hp).2.1
    · rw [List.mem_singleton.1 h]; exact hf.1)
  obtain ⟨z1, hz1⟩ : ∃ q, q = (amI l).contains 0 := ⟨_, rfl⟩
  obtain ⟨z2, hz2⟩ : ∃ q, q = (amO os).contains 0 := ⟨_, rfl⟩
  have HC1 := Lib.hid (fun (A : Option Addr) (c : Nat) w hs => contains64_any (A := A) (n := n) (c := c) (zs := amI l) (x := 0) w hs (by omega))
  have HC2 := Lib.hid (fun (A : Option Addr) (c : Nat) w hs => contains64_any (A := A) (n := n2) (c := c) (zs := amO os) (x := 0) w hs (by omega))
  have HA1 := Lib.hid (fun (A : Option Addr) (c : Nat) w hs => all_any A n c (amI l) w hs (by omega) HP1.out)
  have HA2 := Lib.hid (fun (A : Option Addr) (c : Nat) w hs => all_any A (n2 + 1) c (amO os ++ [fee]) w hs (by omega) HP2.out)
  rw [← hz1] at HC1
  rw [← hz2] at HC2
  obtain ⟨s1, hs1⟩ : ∃ q, q = (allE 0 (amI l)).1 := ⟨_, rfl⟩
  obtain ⟨r1, hr1⟩ : ∃ q, q = (allE 0 (amI l)).2 := ⟨_, rfl⟩
  obtain ⟨s2, hs2⟩ : ∃ q, q = (allE 0 (amO os ++ [fee])).1 := ⟨_, rfl⟩
  obtain ⟨r2, hr2⟩ : ∃ q, q = (allE 0 (amO os ++ [fee])).2 := ⟨_, rfl⟩
  rw [← hs1, ← hr1] at HA1
  rw [← hs2, ← hr2] at HA2
  have HCK := Lib.hid (show checkT t = if lg = true then 4 else if tw = true then 7 else if (z1 || z2) = true then 8 else if r1 ≠ 0 then r1 else if r2 ≠ 0 then r2 else if s1 ≠ s2 then 9 else 0 by
    unfold checkT zeroT
    rw [e1, e2, e3, ← hlg, ← htw, ← hz1, ← hz2, ← hs1, ← hr1, ← hs2, ← hr2])
  rw [← ht]
  obtain ⟨ck, hck⟩ : ∃ q, q = checkT t := ⟨_, rfl⟩
  rw [← hck] at HCK ⊢
  have HZ := Lib.hid (show ((amO os ++ [fee]).map (Value.int .u64)) = (amO os).map (Value.int .u64) ++ [.int .u64 fee] by simp)
  obtain ⟨tv, htv⟩ : ∃ q, q = txV A n c A2 n2 c2 fee ex := ⟨_, rfl⟩
  rw [← htv] at HTC HT2 HAM HLG HTW ⊢
  obtain ⟨xs1, hx1⟩ : ∃ q, q = (amI l).map (Value.int .u64) := ⟨_, rfl⟩
  obtain ⟨xs2, hx2⟩ : ∃ q, q = (amO os).map (Value.int .u64) := ⟨_, rfl⟩
  rw [← hx1, ← hx2] at HAM
  rw [← hx1] at HC1 HA1
  rw [← hx2] at HC2 HZ
  obtain ⟨xs3, hx3⟩ : ∃ q, q = (amO os ++ [fee]).map (Value.int .u64) := ⟨_, rfl⟩
  rw [← hx3] at HA2 HZ
  obtain ⟨w_, hw⟩ : ∃ x, x = w := ⟨_, rfl⟩
  have HB := Lib.hid (show Below w.heap.size w w_ by rw [hw]; exact Below.refl _ _)
  suffices H : Calls Try.prog 55 #[.agg tv.toArray] w_ fun e w' => e = .returned (.int .i64 ck) ∧ Grow w w' by rw [hw] at H; exact H
  clear hw hi ho ht hlg htw e1 e2 e3 hz1 hz2 hs1 hr1 hs2 hr2 hck htv hx1 hx2 hx3 hf hex
  go_enter Try.func55, Try.ntmps55
  go_wp2_with (first | (with_reducible refine wpl_box (o := ⟨some 1, _, _, _, _, _⟩) rfl rfl rfl ?_))
  intro w2_ hb2_ hb_ hsz2_
  have HX_ := Lib.hid (at_mk hb2_ HTC.out.len)
  clear hb2_ hsz2_
  have HG_ := Lib.hid HB.out.size
  have HB_ := Lib.hid (HB.out.grow' hb_)
  clear HB
  have HB := HB_
  clear HB_
  generalize hg_ : w_.heap.size = g1 at HX_ HG_ ⊢
  clear hg_
  have HX_g := HG_
  clear HG_
  have HX := HX_
  clear hb_ HX_
  try clear w_
  rename World => w_
  go_wp2_with (first | (with_reducible refine wpl_loadb (o := ⟨some 9, _, _, _, _, _⟩) rfl rfl row_tx HX.out.blk rfl HX.out.len ?_))
  refine (HAM.out _ (HI.out.grow HB.out) (HO.out.grow HB.out)).mono ?_
  rintro e w2_ ⟨A3, c3, A4, c4, rfl, hu1, hu2, hb_⟩
  have HU1 := Lib.hid hu1
  have HU2 := Lib.hid (show OwnU w2_ w_.heap.size A4 n2 c4 xs2 from hu2)
  have HGB := Lib.hid (show w.heap.size ≤ w_.heap.size ∧ g1 < w_.heap.size from ⟨HB.out.size, HX.out.lt⟩)
  obtain ⟨b4, hb4⟩ : ∃ q, q = w_.heap.size := ⟨_, rfl⟩
  have HSB := Lib.hid (show SzG w2_ w_.heap.size from hb_.size)
  rw [← hb4] at HU1 HU2 HGB HSB
  have HX1 := Lib.hid (HX.out.grow hb_)
  clear hu1 hu2 hb4
  clear HX
  have HX := HX1
  clear HX1
  have HB1_ := Lib.hid (HB.out.grow' hb_)
  clear HB hb_
  have HB := HB1_
  clear HB1_
  try clear w_
  rename World => w_
  go_wp2_with (first | (with_reducible refine wpl_loadb (o := ⟨some 14, _, _, _, _, _⟩) rfl rfl row_tx HX.out.blk rfl HX.out.len ?_))
  refine (HLG.out _ (HI.out.grow HB.out)).mono ?_
  rintro e w_ ⟨rfl, hb_⟩
  have HB_ := Lib.hid (HB.out.grow' hb_)
  clear HB
  have HB := HB_
  clear HB_
  have HX_ := Lib.hid (HX.out.grow hb_)
  clear HX
  have HX := HX_
  clear HX_
  have HU1_ := Lib.hid (HU1.out.grow hb_)
  clear HU1
  have HU1 := HU1_
  clear HU1_
  have HU2_ := Lib.hid (HU2.out.grow hb_)
  clear HU2
  have HU2 := HU2_
  clear HU2_
  have HSB_ := Lib.hid (HSB.out.grow hb_)
  clear HSB
  have HSB := HSB_
  clear HSB_
  clear hb_
  cases lg with
  | true =>
    go_wp2_with fail
    go_ret
    exact ⟨by rw [HCK.out]; rfl, HB.out⟩
  | false =>
    go_wp2_with (first | (with_reducible refine wpl_loadb (o := ⟨some 17, _, _, _, _, _⟩) rfl rfl row_tx HX.out.blk rfl HX.out.len ?_))
    refine (HTW.out _ (HI.out.grow HB.out)).mono ?_
    rintro e w_ ⟨rfl, hb_⟩
    have HB_ := Lib.hid (HB.out.grow' hb_)
    clear HB
    have HB := HB_
    clear HB_
    have HX_ := Lib.hid (HX.out.grow hb_)
    clear HX
    have HX := HX_
    clear HX_
    have HU1_ := Lib.hid (HU1.out.grow hb_)
    clear HU1
    have HU1 := HU1_
    clear HU1_
    have HU2_ := Lib.hid (HU2.out.grow hb_)
    clear HU2
    have HU2 := HU2_
    clear HU2_
    have HSB_ := Lib.hid (HSB.out.grow hb_)
    clear HSB
    have HSB := HSB_
    clear HSB_
    clear hb_
    cases tw with
    | true =>
      go_wp2_with fail
      go_ret
      exact ⟨by rw [HCK.out]; rfl, HB.out⟩
    | false =>
      go_wp2_with fail
      refine (HC1.out _ _ _ HU1.out.sl).mono ?_
      rintro e w2_ ⟨rfl, rfl⟩
      cases z1 with
      | true =>
        go_wp2_with fail
        go_ret
        exact ⟨by rw [HCK.out]; rfl, HB.out⟩
      | false =>
        go_wp2_with fail
        refine (HC2.out _ _ _ HU2.out.sl).mono ?_
        rintro e w2_ ⟨rfl, rfl⟩
        cases z2 with
        | true =>
          go_wp2_with fail
          go_ret
          exact ⟨by rw [HCK.out]; rfl, HB.out⟩
        | false =>
          go_wp2_with fail
          refine (HA1.out _ _ _ HU1.out.sl).mono ?_
          clear HU1
          rintro e w_ ⟨rfl, hb_⟩
          have HB_ := Lib.hid (HB.out.grow' hb_)
          clear HB
          have HB := HB_
          clear HB_
          have HX_ := Lib.hid (HX.out.grow hb_)
          clear HX
          have HX := HX_
          clear HX_
          have HU2_ := Lib.hid (HU2.out.grow hb_)
          clear HU2
          have HU2 := HU2_
          clear HU2_
          have HSB_ := Lib.hid (HSB.out.grow hb_)
          clear HSB
          have HSB := HSB_
          clear HSB_
          clear hb_
          by_cases h1 : r1 = 0
          · have HC3 := Lib.hid (show ck = if r2 ≠ 0 then r2 else if s1 ≠ s2 then 9 else 0 by rw [HCK.out]; simp [h1])
            subst h1
            have c2 := HX.out.blk.at_ HT2.out
            have HSZ := Lib.hid (show b4 ≤ w_.heap.size from HSB.out)
            have HR3 := Lib.hid (show w_.ownsRow b4 24 1 (.slice A4 n2 c4) n2 xs2 from HU2.out)
            go_wp2_with (first | (at_builtin; refine wpl_app1 rfl rfl el_us HR3.out rfl (m := 1) rfl ?_ ?_ ?_ ?_ ?_ ?_))
            · rfl
            · rfl
            · omega
            · omega
            · exact HSZ.out
            intro A5 c5 w4_ ho_ hg_ hA_
            have hne_ := own_from HR3.out
            have HB_ := Lib.hid (below_grown HB.out hg_ HB.out.size (fun x hx => by have := hne_ _ hx; have := HGB.out; omega))
            have HS5 := Lib.hid (show Sl w4_ w4_.heap.size 1 A5 (n2 + 1) xs3 by rw [HZ.out]; exact Sl.of_own ho_)
            clear ho_ hg_ hA_ hne_ HB HR3 HU2 HX c2
            go_wp2_with fail
            refine (HA2.out _ _ _ HS5.out).mono ?_
            rintro e w5_ ⟨rfl, hb_⟩
            have HB := Lib.hid (HB_.out.grow' hb_)
            clear hb_ HB_ HS5
            by_cases h2 : r2 = 0
            · have HC4 := Lib.hid (show ck = if s1 ≠ s2 then 9 else 0 by rw [HC3.out]; simp [h2])
              subst h2
              by_cases h3 : s1 = s2
              · have d3 : (s1 != s2) = false := by simpa using h3
                have HC5 := Lib.hid (show ck = 0 by rw [HC4.out]; simp [h3])
                clear h3
                go_wp2_with fail
                go_ret
                exact ⟨by rw [HC5.out]; rfl, HB.out⟩
              · have d3 : (s1 != s2) = true := by simpa using h3
                have HC5 := Lib.hid (show ck = 9 by rw [HC4.out]; simp [h3])
                clear h3
                go_wp2_with fail
                go_ret
                exact ⟨by rw [HC5.out]; rfl, HB.out⟩
            · have d2 : (r2 != 0) = true := by simpa using h2
              have HC4 := Lib.hid (show ck = r2 by rw [HC3.out]; simp [h2])
              clear h2
              go_wp2_with fail
              go_ret
              exact ⟨by rw [HC4.out]; rfl, HB.out⟩
          · have d1 : (r1 != 0) = true := by simpa using h1
            have HC3 := Lib.hid (show ck = r1 by rw [HCK.out]; simp [h1])
            clear h1
            go_wp2_with fail
            go_ret
            exact ⟨by rw [HC3.out]; rfl, HB.out⟩
end Go.Proofs.Ytobmldegjajocaa
/- The contract of header.Follows. Printed by mkhdrf.py. -/
namespace Go.Proofs.Ytobmldegjajocaa
open Go.RowKit Go.Shelf
set_option linter.unusedVariables false
section
variable {P : Program} {ops : Array Oper} {am cl : List Nat} {sp : Nat → Sp} {w0 : World} {Q : Exit → Act → World → Prop} {us : List Nat} {L : List (Nat × (World → Prop))} {o : Oper} {i : Nat} {a : Act}
end
end Go.Proofs.Ytobmldegjajocaa

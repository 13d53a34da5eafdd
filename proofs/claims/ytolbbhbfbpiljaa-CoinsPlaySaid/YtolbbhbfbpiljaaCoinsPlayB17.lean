/- The given statement CoinsPlaySaid, out of the walk coinsPlay_walk: for every input the law returns true, and each argument reads as it did. No condition. -/
import Derived.Test.YtolbbhbfbpiljaaCoinsPlayB16
import Derived.Test.YtolbbhbfbpiljaaCoinsPlayB8
import Derived.Deep.CutRange
import Derived.Test.YtolbbhbfbpiljaaRows
import Derived.ProofKit
import Derived.OpenShut
import Derived.ShutString
import Derived.ChangeOld
import Derived.Below
set_option linter.unusedSimpArgs false
/- The walk of seisinlaw19.CoinsPlay. -/
namespace Go.Proofs.Ytolbbhbfbpiljaa
open Go.RowKit
set_option linter.unusedVariables false
theorem row_ne {w : World} {g b n : Nat} {A : Option Addr} {L X : CoinsL} {s : Int} (hc : CoinsAt w g b L s) (hr : RowC w A n X) (hn : 0 < n) : ∀ q, A.map Addr.block = some q → q ≠ g ∧ q ≠ b := by
  obtain ⟨q, off, hA, hq, hcell⟩ := hr.1.2 hn
  have hlen := hr.1.1
  intro q' hq'
  rw [hA] at hq'
  obtain rfl : q = q' := by simpa using hq'
  constructor
  · rintro rfl
    obtain ⟨u, hu⟩ : ∃ u, (X.flatMap encAtC)[2]? = some u := ⟨_, List.getElem?_eq_getElem (by omega)⟩
    have h1 := hcell 2 u hu
    have h2 := hc.blk.cell (off + 2)
    rw [h1] at h2
    have h3 : ([Value.map (some b), Value.int .u64 s])[off + 2]? = none := List.getElem?_eq_none (by simp)
    rw [h3] at h2; cases h2
  · rintro rfl
    obtain ⟨u, hu⟩ : ∃ u, (X.flatMap encAtC)[0]? = some u := ⟨_, List.getElem?_eq_getElem (by omega)⟩
    obtain ⟨es, clock, h3, _⟩ := hc.map
    obtain ⟨o, h5, h6⟩ := cells_of_cell (hcell 0 u hu)
    rw [h3] at h5; cases h5; cases h6
theorem RowC.touched {w w' : World} {g b n : Nat} {A : Option Addr} {L X : CoinsL} {s : Int} (hr : RowC w A n X) (hc : CoinsAt w g b L s) (ht : Touched [g, b] w w') : RowC w' A n X := by
  refine ⟨⟨hr.1.1, fun hn => ?_⟩, hr.2⟩
  obtain ⟨q, off, hA, hq, hcell⟩ := hr.1.2 hn
  have h1 := row_ne hc hr hn q (by rw [hA]; rfl)
  refine ⟨q, off, hA, Nat.lt_of_lt_of_le hq ht.size, fun j u hu => ?_⟩
  exact (World.cell?_of_block (w := w) (ht.block q hq (by simp; exact h1))).trans (hcell j u hu)
theorem At.touchC {w w' : World} {g b q n : Nat} {T : TypeId} {xs : List Value} {L : CoinsL} {s : Int} (h : At w q T n xs) (hc : CoinsAt w g b L s) (hT : T ≠ 132) (ht : Touched [g, b] w w') : At w' q T n xs := by
  refine ⟨(ht.block q h.lt (by
    simp only [List.mem_cons, List.not_mem_nil, or_false, not_or]
    constructor
    · rintro rfl
      have h1 := hc.blk; have h2 := h.blk
      unfold Blk at h1 h2
      rw [h1] at h2
      injection h2 with h2
      injection h2 with _ h2
      exact hT h2.symm
    · rintro rfl
      obtain ⟨es, clock, h3, _⟩ := hc.map
      have h2 := h.blk
      unfold Blk at h2
      rw [h3] at h2; cases h2)).trans h.blk, h.len⟩
theorem CoinsAt.touched {w w' : World} {g b g2 b2 : Nat} {L : CoinsL} {s : Int} (h : CoinsAt w g2 b2 L s) (ht : Touched [g, b] w w') (h1 : g2 ≠ g ∧ g2 ≠ b) (h2 : b2 ≠ g ∧ b2 ≠ b) : CoinsAt w' g2 b2 L s := by
  have hg := h.ltg; have hb := h.ltb
  obtain ⟨q1, ⟨es, clock, q2, q3, q4⟩, q5, q6⟩ := h
  exact ⟨(ht.block g2 hg (by simp; exact h1)).trans q1, ⟨es, clock, (ht.block b2 hb (by simp; exact h2)).trans q2, q3, q4⟩, q5, q6⟩
theorem ht_below {w0 w w' : World} {g b : Nat} (hb : Below w0.heap.size w0 w) (ht : Touched [g, b] w w') (h : w0.heap.size ≤ g ∧ w0.heap.size ≤ b) : Below w0.heap.size w0 w' :=
  hb.trans (ht.below (fun k hk => by
    simp only [List.mem_cons, List.not_mem_nil, or_false] at hk
    rcases hk with rfl | rfl
    · exact h.1
    · exact h.2) hb.size)
theorem putR_after {w : World} {g b : Nat} {X L : CoinsL} {s : Int} {p : PtK} {c : CoinV} (hr : RelC X L s) (hp : PtOK p) (hc : CoinOK c)
    (h1 : putR L s p c = 0 → CoinsAt w g b (L ++ [(p, c)]) (addE s c.2).1) (h2 : putR L s p c ≠ 0 → CoinsAt w g b L s) : ∃ L' s', CoinsAt w g b L' s' ∧ RelC (rputC X p c).1 L' s' := by
  by_cases h0 : putR L s p c = 0
  · exact ⟨_, _, h1 h0, hr.put hp hc h0⟩
  · exact ⟨L, s, h2 h0, by rw [rputC_same (by rw [hr.code p c hc]; exact h0)]; exact hr⟩
theorem bt_coin3 : Try.prog.built 54 [(1, .int .u64 3)] = some (coinV (List.replicate 32 0, 3)).toArray := by kernel_rfl
theorem c3_ok : CoinOK (List.replicate 32 0, 3) := ⟨by simp, by simp, by simp⟩
def PlayC (w0 w : World) (v3 v4 : Value) : Prop := ∃ g b X L s A m c, v3 = .pointer (some ⟨g, 0, none⟩) ∧ v4 = .slice A m c ∧ CoinsAt w g b L s ∧ RelC X L s ∧ RowC w A m X ∧ (w0.heap.size ≤ g ∧ w0.heap.size ≤ b) ∧ Below w0.heap.size w0 w
theorem PlayC.grow {w0 w w' : World} {v3 v4 : Value} (h : PlayC w0 w v3 v4) (k : Below w.heap.size w w') : PlayC w0 w' v3 v4 := by
  obtain ⟨g, b, X, L, s, A, m, c, h1, h2, h3, h4, h5, h6, h7⟩ := h
  exact ⟨g, b, X, L, s, A, m, c, h1, h2, h3.call k, h4, h5.call k, h6, h7.grow' k⟩
set_option maxRecDepth 100000 in
set_option maxHeartbeats 16000000 in
theorem coinsPlay_walk (A : Option Addr) (n c : Nat) (l : List ActC) (w : World) (h : ActsC w A n l) (hn : n ≤ 9223372036854775807) :
    Calls Try.prog 7 #[.slice A n c] w fun e w' => e = .returned (.bool true) ∧ Below w.heap.size w w' := by
  have HA := Lib.hid h
  clear h
  by_cases h60 : 60 < n
  · go_enter Try.func7, Try.ntmps7
    have h61 : (60 : Int) < (n : Int) := by omega
    go_wp2_with fail
    refine (awake19 _).mono ?_
    rintro e w9 ⟨rfl, hb9⟩
    go_wp2_with fail
    go_ret
    exact ⟨rfl, hb9⟩
  have h61 : ¬ ((60 : Int) < (n : Int)) := by omega
  go_enter Try.func7, Try.ntmps7
  go_wp2_with fail
  refine (new_any _).mono ?_
  rintro e w1 ⟨g, b, rfl, hc, hg, hb, hbw⟩
  have HI0 := Lib.hid (show PlayC w w1 (.pointer (some ⟨g, 0, none⟩)) (.slice none 0 0) from ⟨g, b, [], [], 0, none, 0, 0, rfl, rfl, hc, RelC.nil, ⟨Sl.nil, by simp, rfl⟩, ⟨hg, hb⟩, hbw⟩)
  clear hc hg hb hbw
  go_wp2_with fail
  go_loopw [3, 4, 5] (fun s3 s4 iv wr => ∃ k : Nat, k ≤ n ∧ iv = .int .i64 k ∧ Hid (PlayC w wr s3 s4)) (fun _ _ iv _ => n - (intOf iv).toNat)
  case atStart => exact ⟨0, by omega, rfl, HI0⟩
  case round =>
    obtain ⟨k, hk, rfl, hI⟩ := hrel
    clear HI0
    rename World => w_
    by_cases hlt : k < n
    · obtain ⟨g, b, X, L, s, A4, m, c4, rfl, rfl, hc, hr, hx, hgb, hbw⟩ := hI.out
      have HC := Lib.hid hc; have HR := Lib.hid hr; have HX := Lib.hid hx; have HGB := Lib.hid hgb; have HB := Lib.hid hbw
      have hm256 : m ≤ 256 := by rw [← hx.2.2, hr.lenX]; exact hr.len
      clear hI hc hr hx hgb hbw
      obtain ⟨ab, aoff, ⟨d, p, v⟩, rfl, hak, hcell, hok⟩ := HA.out.at_ hlt
      have HAC := Lib.hid (show Cl 67 (actC (d, p, v)) from ⟨actC_len hok, fun u hu => by
        unfold actC at hu
        rcases List.mem_cons.1 hu with rfl | hu
        · rfl
        · rcases List.mem_append.1 hu with hu | hu
          · exact ptV_one p u hu
          · exact coinV_one v u hu⟩)
      have HMA := Lib.hid (show ∀ j u, (actC (d, p, v))[j]? = some u → w_.cell? ⟨ab, aoff + k * 67 + j, none⟩ = some u from fun j u hu => bcell HB.out (hcell j u hu))
      have HDO := Lib.hid (show (actC (d, p, v))[0]? = some (.int .i64 d) from rfl)
      have HMP := Lib.hid (fun j u (hu : (ptV p)[j]? = some u) => actC_pt (a := (d, p, v)) hu)
      have HMV := Lib.hid (fun j u (hu : (coinV v)[j]? = some u) => actC_coin (a := (d, p, v)) hok hu)
      have HPO := Lib.hid hok.1; have HVO := Lib.hid hok.2
      have HPC := Lib.hid (ptV_cl hok.1); have HVC := Lib.hid (coinV_cl hok.2)
      have HWO := Lib.hid (show CoinOK ((lookC L p).getD noCoin) by
        cases hl : lookC L p with
        | none => exact noCoin_ok
        | some x =>
          obtain ⟨e, he, rfl⟩ := Option.map_eq_some_iff.1 (show (L.find? (fun e => e.1 == p)).map (·.2) = some x from hl)
          exact (HR.out.ok.1 e (List.mem_of_find?_eq_some he)).2)
      have HWC := Lib.hid (coinV_cl HWO.out); have HWS := Lib.hid (coin_self _ HWO.out)
      have HRG := Lib.hid (fun w' (h' : RowC w' A4 m X) => show Calls Try.prog 28 #[.slice A4 m c4, .agg (ptV p).toArray] w' fun e w'' => e = .returned (.tuple #[.agg (coinV ((lookC L p).getD noCoin)).toArray, .bool (lookC L p).isSome]) ∧ Below w'.heap.size w' w'' from by
        have := rget19_any (c := c4) p w' h' hok.1 (by omega); rw [HR.out.look] at this; exact this)
      have HRP := Lib.hid (fun w' (h' : RowC w' A4 m X) => rput19_any (c := c4) p v w' h' hok.1 hok.2 hm256 (by rw [HR.out.amt]; exact HR.out.max))
      have HPU := Lib.hid (fun w' (h' : CoinsAt w' g b L s) => put_any g b L s p v w' h' hok.1 hok.2 HR.out.nn HR.out.max)
      have HPU3 := Lib.hid (fun w' (h' : CoinsAt w' g b L s) => put_any g b L s p (List.replicate 32 0, 3) w' h' hok.1 c3_ok HR.out.nn HR.out.max)
      have HRT := Lib.hid (fun w' (h' : RowC w' A4 m X) => rtake19_any (c := c4) p w' h' hok.1 (by omega))
      have HTK := Lib.hid (fun w' (h' : CoinsAt w' g b L s) => take_any g b L s p w' h' hok.1 (by have := HR.out.max; omega) (HR.out.amtp p).2)
      have HGT := Lib.hid (fun w' (h' : CoinsAt w' g b L s) => get_any g b L s p w' h' hok.1)
      have HTQ := Lib.hid (fun w' g1 b1 X1 L1 s1 (h' : CoinsAt w' g1 b1 L1 s1) (hr' : RelC X1 L1 s1) => take_any g1 b1 L1 s1 p w' h' hok.1 (by have := hr'.max; omega) (hr'.amtp p).2)
      have HCD := Lib.hid (HR.out.code p v hok.2)
      unfold ptA at HRP HPU HPU3 HRT HTK HGT HTQ
      unfold coinA at HRP HPU HPU3 HTK HGT HTQ
      obtain ⟨rc, hrc⟩ : ∃ q, q = putR L s p v := ⟨_, rfl⟩
      rw [← hrc] at HCD HPU
      obtain ⟨Xn, hXn⟩ : ∃ q, q = (rputC X p v).1 := ⟨_, rfl⟩
      have hpr : rputC X p v = (Xn, rc) := Prod.ext hXn.symm HCD.out
      rw [hpr] at HRP
      have HXN := Lib.hid hXn
      have HRC := Lib.hid hrc
      obtain ⟨th, hth⟩ : ∃ q, q = (lookC L p).isSome := ⟨_, rfl⟩
      rw [← hth] at HRG HTK HGT
      obtain ⟨cs, hcs⟩ : ∃ q, q = coinV ((lookC L p).getD noCoin) := ⟨_, rfl⟩
      rw [← hcs] at HRG HTK HGT HWC HWS
      obtain ⟨av, hav⟩ : ∃ q, q = actC (d, p, v) := ⟨_, rfl⟩
      rw [← hav] at HAC HMA HDO HMP HMV
      obtain ⟨es, hes⟩ : ∃ q, q = ptV p := ⟨_, rfl⟩
      obtain ⟨vs, hvs⟩ : ∃ q, q = coinV v := ⟨_, rfl⟩
      obtain ⟨c3, hc3⟩ : ∃ q, q = (coinV (List.replicate 32 0, 3)) := ⟨_, rfl⟩
      have HB3 := Lib.hid (show Try.prog.built 54 [(1, .int .u64 3)] = some c3.toArray by rw [hc3]; exact bt_coin3)
      rw [← hes] at HMP HPC HRG HRP HPU HPU3 HRT HTK HGT HTQ
      rw [← hvs] at HMV HVC HRP HPU
      rw [← hc3] at HPU3
      clear hak hcell hok hrc hth hcs hav hes hvs hc3 hXn hpr
      go_wp2_with (first | (with_reducible refine wpl_loadm (o := ⟨some 32, _, _, _, _, _⟩) rfl rfl row_actc HMA.out rfl HAC.out.len ?_) | (with_reducible refine wpl_alloc (o := ⟨some 6, _, _, _, _, _⟩) rfl rfl zero_actc ?_))
      intro w1_ hb1_ hbw1_ hsz1_
      have HB1_ := Lib.hid (at_mk hb1_ len_actc)
      have HBW1_ := Lib.hid hbw1_
      have HZ1_ := Lib.hid hsz1_
      clear hb1_ hbw1_ hsz1_
      go_wp2_with (first | (with_reducible refine wpl_storeb (o := ⟨none, .store _ _ _, _, _, _, _⟩) rfl rfl row_actc HB1_.out.blk rfl rfl HB1_.out.len HAC.out.len HAC.out.one ?_))
      intro w2_ hb2_ hg2_ hsz2_
      have hb_ := var_grow HBW1_.out HZ1_.out hg2_
      have HX_ := Lib.hid (at_mk hb2_ HAC.out.len)
      clear hb2_ hg2_ hsz2_ HB1_ HBW1_ HZ1_
      have HB_ := Lib.hid (HB.out.grow' hb_)
      clear HB
      have HB := HB_
      clear HB_
      have HC_ := Lib.hid (HC.out.grow hb_)
      clear HC
      have HC := HC_
      clear HC_
      have HX_ := Lib.hid (HX.out.grow hb_)
      clear HX
      have HX := HX_
      clear HX_
      generalize hg_ : w_.heap.size = gA at HX_ ⊢
      clear hg_
      have HD := HX_
      clear hb_ HX_
      clear w1_
      try clear w_
      rename World => w_
      clear HMA
      have HP1 := Lib.hid (show ∀ w', At w' gA 70 67 av → ∀ j u, es[j]? = some u → w'.cell? ⟨gA, 1 + j, none⟩ = some u from fun w' h j u hu => h.blk.at_ (HMP.out j u hu))
      have HV34 := Lib.hid (show ∀ w', At w' gA 70 67 av → ∀ j u, vs[j]? = some u → w'.cell? ⟨gA, 34 + j, none⟩ = some u from fun w' h j u hu => h.blk.at_ (HMV.out j u hu))
      clear HMP HMV
      have HM_ := Lib.hid (HP1.out w_ HD.out)
      go_wp2_with (first | (with_reducible refine wpl_loadm (o := ⟨some 36, _, _, _, _, _⟩) rfl rfl row_point HM_.out rfl HPC.out.len ?_))
      refine (HRG.out w_ HX.out).mono ?_
      rintro e w_ ⟨rfl, hb_⟩
      have HB_ := Lib.hid (HB.out.grow' hb_)
      clear HB
      have HB := HB_
      clear HB_
      have HC_ := Lib.hid (HC.out.grow hb_)
      clear HC
      have HC := HC_
      clear HC_
      have HX_ := Lib.hid (HX.out.grow hb_)
      clear HX
      have HX := HX_
      clear HX_
      have HD_ := Lib.hid (HD.out.grow hb_)
      clear HD
      have HD := HD_
      clear HD_
      clear hb_
      clear HM_ HRG
      go_wp2_with (first | (with_reducible refine wpl_alloc (o := ⟨some 7, _, _, _, _, _⟩) rfl rfl zero_coin ?_))
      intro w1_ hb1_ hbw1_ hsz1_
      have HB1_ := Lib.hid (at_mk hb1_ len_coin)
      have HBW1_ := Lib.hid hbw1_
      have HZ1_ := Lib.hid hsz1_
      clear hb1_ hbw1_ hsz1_
      go_wp2_with (first | (with_reducible refine wpl_storeb (o := ⟨none, .store _ _ _, _, _, _, _⟩) rfl rfl row_coin HB1_.out.blk rfl rfl HB1_.out.len HWC.out.len HWC.out.one ?_))
      intro w2_ hb2_ hg2_ hsz2_
      have hb_ := var_grow HBW1_.out HZ1_.out hg2_
      have HX_ := Lib.hid (at_mk hb2_ HWC.out.len)
      clear hb2_ hg2_ hsz2_ HB1_ HBW1_ HZ1_
      have HB_ := Lib.hid (HB.out.grow' hb_)
      clear HB
      have HB := HB_
      clear HB_
      have HC_ := Lib.hid (HC.out.grow hb_)
      clear HC
      have HC := HC_
      clear HC_
      have HX_ := Lib.hid (HX.out.grow hb_)
      clear HX
      have HX := HX_
      clear HX_
      have HD_ := Lib.hid (HD.out.grow hb_)
      clear HD
      have HD := HD_
      clear HD_
      generalize hg_ : w_.heap.size = gW at HX_ ⊢
      clear hg_
      have HW := HX_
      clear hb_ HX_
      clear w1_
      try clear w_
      rename World => w_
      have c0 := HD.out.blk.at_ HDO.out
      go_upto_block 2 with fail
      clear c0
      go_cut [3, 4, 9, 10, 11, 12, 13, 14, 15] from 42 to 122 (fun s3 s4 s9 s10 s11 s12 s13 s14 s15 wr => Hid (PlayC w wr s3 s4))
      case first =>
        by_cases hd0 : d = 0
        · subst hd0
          have HM1 := Lib.hid (HP1.out w_ HD.out); have HM2 := Lib.hid (HV34.out w_ HD.out)
          go_wp2_with (first | (with_reducible refine wpl_loadm (o := ⟨some 47, _, _, _, _, _⟩) rfl rfl row_point HM1.out rfl HPC.out.len ?_) | (with_reducible refine wpl_loadm (o := ⟨some 49, _, _, _, _, _⟩) rfl rfl row_coin HM2.out rfl HVC.out.len ?_))
          refine (HRP.out w_ HX.out).mono ?_
          rintro e w2_ ⟨A9, m9, c9, rfl, hx9, hb_⟩
          have HX9 := Lib.hid hx9
          replace HC := Lib.hid (HC.out.grow hb_); replace HD := Lib.hid (HD.out.grow hb_); replace HB := Lib.hid (HB.out.grow' hb_)
          clear hx9 hb_ HM1 HM2
          try clear w_
          rename World => w_
          have HM1 := Lib.hid (HP1.out w_ HD.out); have HM2 := Lib.hid (HV34.out w_ HD.out)
          have z1 : (rc != rc) = false := by simp
          go_wp2_with (first | (with_reducible refine wpl_loadm (o := ⟨some 56, _, _, _, _, _⟩) rfl rfl row_point HM1.out rfl HPC.out.len ?_) | (with_reducible refine wpl_loadm (o := ⟨some 58, _, _, _, _, _⟩) rfl rfl row_coin HM2.out rfl HVC.out.len ?_))
          refine Calls.mono (show Calls Try.prog 30 _ w_ _ from HPU.out w_ HC.out) ?_
          rintro e w2_ ⟨rfl, ht, h1, h2⟩
          have HEND := Lib.hid (show PlayC w w2_ (.pointer (some ⟨g, 0, none⟩)) (.slice A9 m9 c9) by
            obtain ⟨L', s', q1, q2⟩ := putR_after HR.out HPO.out HVO.out (by rw [← HRC.out]; exact h1) (by rw [← HRC.out]; exact h2)
            rw [← HXN.out] at q2
            exact ⟨g, b, _, L', s', A9, m9, c9, rfl, rfl, q1, q2, HX9.out.touched HC.out ht, HGB.out, ht_below HB.out ht HGB.out⟩)
          clear ht h1 h2 HM1 HM2
          go_wp2_with fail
          go_meet
          case rel => exact HEND
        have hd0f := eq_false hd0
        by_cases hd1 : d = 1
        · subst hd1
          have HM1 := Lib.hid (HP1.out w_ HD.out)
          go_wp2_with (first | (with_reducible refine wpl_loadm (o := ⟨some 66, _, _, _, _, _⟩) rfl rfl row_point HM1.out rfl HPC.out.len ?_))
          refine (HRT.out w_ HX.out).mono ?_
          rintro e w2_ ⟨A9, m9, c9, rfl, hx9, hb_⟩
          have HX9 := Lib.hid hx9
          replace HC := Lib.hid (HC.out.grow hb_); replace HD := Lib.hid (HD.out.grow hb_); replace HW := Lib.hid (HW.out.grow hb_); replace HB := Lib.hid (HB.out.grow' hb_)
          clear hx9 hb_ HM1
          try clear w_
          rename World => w_
          have HM1 := Lib.hid (HP1.out w_ HD.out)
          go_wp2_with (first | (with_reducible refine wpl_loadm (o := ⟨some 71, _, _, _, _, _⟩) rfl rfl row_point HM1.out rfl HPC.out.len ?_))
          refine Calls.mono (show Calls Try.prog 32 _ w_ _ from HTK.out w_ HC.out) ?_
          rintro e w2_ ⟨rfl, ht, h1⟩
          have HEND := Lib.hid (show PlayC w w2_ (.pointer (some ⟨g, 0, none⟩)) (.slice A9 m9 c9) from ⟨g, b, _, _, _, A9, m9, c9, rfl, rfl, h1, HR.out.take p, HX9.out.touched HC.out ht, HGB.out, ht_below HB.out ht HGB.out⟩)
          replace HW := Lib.hid (HW.out.touchC HC.out (by decide) ht)
          clear ht h1 HM1 HB HC HD HX9 HX
          obtain ⟨wz, hwz⟩ : ∃ q, q = w2_ := ⟨_, rfl⟩
          have HB := Lib.hid (show Below wz.heap.size wz w2_ by rw [hwz]; exact Below.refl _ _)
          rw [← hwz] at HEND
          clear hwz
          try clear w_
          rename World => w_
          go_wp2_with (first | (with_reducible refine wpl_alloc (o := ⟨some 11, _, _, _, _, _⟩) rfl rfl zero_coin ?_))
          intro w1_ hb1_ hbw1_ hsz1_
          have HB1_ := Lib.hid (at_mk hb1_ len_coin)
          have HBW1_ := Lib.hid hbw1_
          have HZ1_ := Lib.hid hsz1_
          clear hb1_ hbw1_ hsz1_
          go_wp2_with (first | (with_reducible refine wpl_storeb (o := ⟨none, .store _ _ _, _, _, _, _⟩) rfl rfl row_coin HB1_.out.blk rfl rfl HB1_.out.len HWC.out.len HWC.out.one ?_))
          intro w2_ hb2_ hg2_ hsz2_
          have hb_ := var_grow HBW1_.out HZ1_.out hg2_
          have HX_ := Lib.hid (at_mk hb2_ HWC.out.len)
          clear hb2_ hg2_ hsz2_ HB1_ HBW1_ HZ1_
          have HB_ := Lib.hid (HB.out.grow' hb_)
          clear HB
          have HB := HB_
          clear HB_
          have HW_ := Lib.hid (HW.out.grow hb_)
          clear HW
          have HW := HW_
          clear HW_
          generalize hg_ : w_.heap.size = gY at HX_ ⊢
          clear hg_
          have HY := HX_
          clear hb_ HX_
          clear w1_
          try clear w_
          rename World => w_
          have heq := HWS.out
          have z1 : (th != th) = false := by simp
          go_wp2_with (first | (with_reducible refine wpl_loadb (o := ⟨some 75, _, _, _, _, _⟩) rfl rfl row_coin HY.out.blk rfl HY.out.len ?_) | (with_reducible refine wpl_loadb (o := ⟨some 76, _, _, _, _, _⟩) rfl rfl row_coin HW.out.blk rfl HW.out.len ?_))
          go_meet
          case rel => exact Lib.hid (PlayC.grow HEND.out HB.out)
        have hd1f := eq_false hd1
        have HPL := Lib.hid (show ∀ w', CoinsAt w' g b L s → RowC w' A4 m X → Below w.heap.size w w' → PlayC w w' (.pointer (some ⟨g, 0, none⟩)) (.slice A4 m c4) from fun w' h1 h2 h3 => ⟨g, b, X, L, s, A4, m, c4, rfl, rfl, h1, HR.out, h2, HGB.out, h3⟩)
        by_cases hd2 : d = 2
        · subst hd2
          have HM1 := Lib.hid (HP1.out w_ HD.out)
          go_wp2_with (first | (with_reducible refine wpl_loadm (o := ⟨some 88, _, _, _, _, _⟩) rfl rfl row_point HM1.out rfl HPC.out.len ?_))
          refine (HGT.out w_ HC.out).mono ?_
          rintro e w_ ⟨rfl, hb_⟩
          have HB_ := Lib.hid (HB.out.grow' hb_)
          clear HB
          have HB := HB_
          clear HB_
          have HC_ := Lib.hid (HC.out.grow hb_)
          clear HC
          have HC := HC_
          clear HC_
          have HX_ := Lib.hid (HX.out.grow hb_)
          clear HX
          have HX := HX_
          clear HX_
          have HW_ := Lib.hid (HW.out.grow hb_)
          clear HW
          have HW := HW_
          clear HW_
          clear hb_
          clear HM1
          go_wp2_with (first | (with_reducible refine wpl_alloc (o := ⟨some 13, _, _, _, _, _⟩) rfl rfl zero_coin ?_))
          intro w1_ hb1_ hbw1_ hsz1_
          have HB1_ := Lib.hid (at_mk hb1_ len_coin)
          have HBW1_ := Lib.hid hbw1_
          have HZ1_ := Lib.hid hsz1_
          clear hb1_ hbw1_ hsz1_
          go_wp2_with (first | (with_reducible refine wpl_storeb (o := ⟨none, .store _ _ _, _, _, _, _⟩) rfl rfl row_coin HB1_.out.blk rfl rfl HB1_.out.len HWC.out.len HWC.out.one ?_))
          intro w2_ hb2_ hg2_ hsz2_
          have hb_ := var_grow HBW1_.out HZ1_.out hg2_
          have HX_ := Lib.hid (at_mk hb2_ HWC.out.len)
          clear hb2_ hg2_ hsz2_ HB1_ HBW1_ HZ1_
          have HB_ := Lib.hid (HB.out.grow' hb_)
          clear HB
          have HB := HB_
          clear HB_
          have HW_ := Lib.hid (HW.out.grow hb_)
          clear HW
          have HW := HW_
          clear HW_
          have HC_ := Lib.hid (HC.out.grow hb_)
          clear HC
          have HC := HC_
          clear HC_
          have HX_ := Lib.hid (HX.out.grow hb_)
          clear HX
          have HX := HX_
          clear HX_
          generalize hg_ : w_.heap.size = gY at HX_ ⊢
          clear hg_
          have HY := HX_
          clear hb_ HX_
          clear w1_
          try clear w_
          rename World => w_
          have heq := HWS.out
          have z1 : (th != th) = false := by simp
          go_wp2_with (first | (with_reducible refine wpl_loadb (o := ⟨some 92, _, _, _, _, _⟩) rfl rfl row_coin HY.out.blk rfl HY.out.len ?_) | (with_reducible refine wpl_loadb (o := ⟨some 93, _, _, _, _, _⟩) rfl rfl row_coin HW.out.blk rfl HW.out.len ?_))
          go_meet
          case rel => exact Lib.hid (HPL.out _ HC.out HX.out HB.out)
        have hd2f := eq_false hd2
        by_cases hd3 : d = 3
        · subst hd3
          go_wp2_with fail
          refine (ccopy_any g b L s w_ HC.out).mono ?_
          rintro e w2_ ⟨g2, b2, rfl, hc2, hg2, hb2, hb_⟩
          have HC2 := Lib.hid hc2
          have HNE := Lib.hid (show (g2 ≠ g ∧ g2 ≠ b) ∧ b2 ≠ g ∧ b2 ≠ b by have h1 := HC.out.ltg; have h2 := HC.out.ltb; omega)
          have HGB2 := Lib.hid (show w.heap.size ≤ g2 ∧ w.heap.size ≤ b2 by have h1 := HB.out.size; omega)
          replace HC := Lib.hid (HC.out.grow hb_); replace HX := Lib.hid (HX.out.grow hb_); replace HD := Lib.hid (HD.out.grow hb_); replace HB := Lib.hid (HB.out.grow' hb_)
          clear hc2 hg2 hb2 hb_
          try clear w_
          rename World => w_
          have HM1 := Lib.hid (HP1.out w_ HD.out)
          go_wp2_with (first | (with_reducible refine wpl_loadm (o := ⟨some 107, _, _, _, _, _⟩) rfl rfl row_point HM1.out rfl HPC.out.len ?_) | (with_reducible refine wpl_stop (o := ⟨some 108, _, _, _, _, _⟩) ?_))
          refine stop_go ?_
          refine wpl_build rfl rfl HB3.out ?_
          go_wp2_with fail
          refine Calls.mono (show Calls Try.prog 30 _ w_ _ from HPU3.out w_ HC.out) ?_
          rintro e w2_ ⟨rfl, ht, h1, h2⟩
          obtain ⟨L1, s1, hq1, hq2⟩ := putR_after HR.out HPO.out c3_ok h1 h2
          have HC1 := Lib.hid hq1; have HR1 := Lib.hid hq2
          replace HC2 := Lib.hid (HC2.out.touched ht HNE.out.1 HNE.out.2)
          replace HX := Lib.hid (HX.out.touched HC.out ht)
          replace HD := Lib.hid (HD.out.touchC HC.out (by decide) ht)
          replace HB := Lib.hid (ht_below HB.out ht HGB.out)
          clear ht h1 h2 hq1 hq2 HC HM1
          try clear w_
          rename World => w_
          have HM1 := Lib.hid (HP1.out w_ HD.out)
          go_wp2_with (first | (with_reducible refine wpl_loadm (o := ⟨some 112, _, _, _, _, _⟩) rfl rfl row_point HM1.out rfl HPC.out.len ?_))
          refine Calls.mono (show Calls Try.prog 32 _ w_ _ from HTQ.out w_ g b _ L1 s1 HC1.out HR1.out) ?_
          rintro e w2_ ⟨rfl, ht, h1⟩
          have HC3 := Lib.hid h1
          have HR3 := Lib.hid (HR1.out.take p)
          replace HC2 := Lib.hid (HC2.out.touched ht HNE.out.1 HNE.out.2)
          replace HX := Lib.hid (HX.out.touched HC1.out ht)
          replace HB := Lib.hid (ht_below HB.out ht HGB.out)
          obtain ⟨L3, hL3⟩ : ∃ q, q = dropC L1 p := ⟨_, rfl⟩
          obtain ⟨s3, hs3⟩ : ∃ q, q = s1 - ((lookC L1 p).getD noCoin).2 := ⟨_, rfl⟩
          obtain ⟨X3, hX3⟩ : ∃ q, q = cutC (rputC X p (List.replicate 32 0, 3)).1 p := ⟨_, rfl⟩
          rw [← hL3, ← hs3] at HC3 HR3
          rw [← hX3] at HR3
          clear ht h1 HC1 HR1 HM1 HD hL3 hs3 hX3
          generalize coinV ((lookC L1 p).getD noCoin) = tv1
          generalize (lookC L1 p).isSome = tv2
          try clear w_
          rename World => w_
          have HPL2 := Lib.hid (show ∀ w', CoinsAt w' g2 b2 L s → RowC w' A4 m X → Below w.heap.size w w' → PlayC w w' (.pointer (some ⟨g2, 0, none⟩)) (.slice A4 m c4) from fun w' h1 h2 h3 => ⟨g2, b2, X, L, s, A4, m, c4, rfl, rfl, h1, HR.out, h2, HGB2.out, h3⟩)
          rcases Nat.eq_zero_or_pos m with hm0 | hm0
          · subst hm0
            go_wp2_with fail
            go_meet
            case rel => exact Lib.hid (HPL2.out _ HC2.out HX.out HB.out)
          · obtain ⟨bx, off, e0, rfl, _, he0, hok0, hcc⟩ := HX.out.at_ hm0
            have HMX := Lib.hid (show ∀ j u, (ptV e0.1)[j]? = some u → w_.cell? ⟨bx, off + j, none⟩ = some u from fun j u hu => by
              have h1 := hcc (0 + j) u (encAtC_pt hok0 hu)
              rw [Nat.zero_add, Nat.zero_mul, Nat.add_zero] at h1; exact h1)
            have HXC := Lib.hid (ptV_cl hok0.1)
            have HTX := Lib.hid (take_any g b L3 s3 e0.1 w_ HC3.out hok0.1 (by have := HR3.out.max; omega) (HR3.out.amtp e0.1).2)
            unfold ptA at HTX
            obtain ⟨xs0, hxs0⟩ : ∃ q, q = ptV e0.1 := ⟨_, rfl⟩
            rw [← hxs0] at HMX HXC HTX
            have hm1 : (0 : Int) < (m : Int) := by omega
            clear he0 hok0 hcc hxs0
            go_wp2_with (first | (with_reducible refine wpl_loadm (o := ⟨some 121, _, _, _, _, _⟩) rfl rfl row_point HMX.out rfl HXC.out.len ?_))
            refine Calls.mono (show Calls Try.prog 32 _ w_ _ from HTX.out) ?_
            rintro e w2_ ⟨rfl, ht, h1⟩
            replace HC2 := Lib.hid (HC2.out.touched ht HNE.out.1 HNE.out.2)
            replace HX := Lib.hid (HX.out.touched HC3.out ht)
            replace HB := Lib.hid (ht_below HB.out ht HGB.out)
            clear ht h1 HMX HTX
            generalize coinA ((lookC L3 e0.1).getD noCoin) = tv3
            generalize (lookC L3 e0.1).isSome = tv4
            go_wp2_with fail
            go_meet
            case rel => exact Lib.hid (HPL2.out _ HC2.out HX.out HB.out)
        have hd3f := eq_false hd3
        go_wp2_with fail
        go_meet
        case rel => exact Lib.hid (HPL.out _ HC.out HX.out HB.out)
      case rest =>
        clear HC HX HD HW HB
        obtain ⟨g, b, X, L, s, A4, m, c4, rfl, rfl, hc, hr, hx, hgb, hbw⟩ := hcut.out
        have HIS := Lib.hid (isC_any (c := c4) g b X L s wc hc hr hx)
        have HEND := Lib.hid (show PlayC w wc (.pointer (some ⟨g, 0, none⟩)) (.slice A4 m c4) from ⟨g, b, X, L, s, A4, m, c4, rfl, rfl, hc, hr, hx, hgb, hbw⟩)
        clear hc hr hx hgb hbw hcut
        go_wp2_with fail
        refine HIS.out.mono ?_
        rintro e w9 ⟨rfl, hb9⟩
        replace HEND := Lib.hid (HEND.out.grow hb9)
        clear hb9 HIS
        go_wp2_with fail
        go_roundw
        case rel => exact ⟨k + 1, by omega, by go_num, HEND⟩
        case measure => simp [intOf]; omega
    · obtain rfl : k = n := by omega
      go_wp2_with fail
      refine (awake19 _).mono ?_
      rintro e w9 ⟨rfl, hb9⟩
      have HB9 := Lib.hid (show Below w.heap.size w w9 by
        obtain ⟨_, _, _, _, _, _, _, _, _, _, _, _, _, _, hb⟩ := hI.out
        exact hb.grow' hb9)
      clear hb9
      go_wp2_with fail
      go_ret
      exact ⟨rfl, HB9.out⟩
end Go.Proofs.Ytolbbhbfbpiljaa

/- The given statement CoinsPlaySaid, out of the walk coinsPlay_walk: for every input the law returns true, and each argument reads as it did. No condition. -/
namespace Go.Proofs.Ytolbbhbfbpiljaa.lawCoinsPlay
open Go.ChangeShapes Go.WideShapes Go.ChangeAt Go.RowKit
open Go.ChangeMaps (open_string shut_string)
set_option linter.unusedVariables false

theorem own : ownKnob Try.prog.godebug = none := by kernel_rfl
theorem laidOut : laidOutB Try.prog = true := by kernel_rfl

set_option maxRecDepth 100000 in
theorem lifted (os : Os) (started : os.Started) (H : Type) (enc : TypeId × Value → H) :
    ReturnsInHanded {} Try.checked os 7 .any (Rows.coinsPlaySpec.pre6 enc Try.prog Try.f7 Rows.coinsPlayRow.domain false) (Rows.coinsPlaySpec.post enc Try.prog Try.f7 false true false false) := by
  refine returnsInHanded_of_change (C := Try.checked) own started (by kernel_rfl) Try.func7
    (ChangeSpec.witness6 (enc := enc) (C := Try.checked) false ⟨#[], #[.slice none 0 0], []⟩ 8 (by kernel_rfl) (by kernel_rfl) (by kernel_rfl) (by kernel_rfl)) ?_
  intro W base args ds gs before hval0 hW hcnd _
  have hval : ∀ (j : Nat) t v, Try.f7.params[j]? = some t → args[j]? = some v → Value.okWide Try.prog W .any base t v := hval0
  have hW' := hW
  obtain ⟨p, q, hA0, hV, rfl, hfz, hnd⟩ := hW
  have hA : DataW.TrodAll enc Try.prog W 0 (fun _ => true) true Try.f7.params.toList args.toList ds p := hA0
  rw [Try.params7] at hA hval
  obtain ⟨v0, vs0, d0, ds0, p0, q0, hargs, rfl, rfl, h0, r0⟩ := trodAll_cons hA
  obtain ⟨rfl, rfl, rfl⟩ := trodAll_nil r0
  obtain rfl : args = #[v0] := by cases args; simp_all
  obtain ⟨rfl, rfl⟩ := trodVars_none hV
  have k0 := h0
  have lt0 : ∀ x ∈ p0, x.block < W.heap.size := by obtain ⟨m, hm⟩ := k0; exact DataW.trod_lt m _ _ _ hm
  obtain ⟨x0_0, x0_1, x0_2, x0_3, rfl, f0_0, f0_1⟩ := open_actc (hval 0 65 v0 rfl rfl) h0
  clear hA0 hval0
  refine (coinsPlay_walk x0_0 x0_1 x0_2 x0_3 W f0_0 f0_1).mono fun e W' ⟨he, bel⟩ => ?_
  subst he
  exact ⟨_, rfl, _, _, _, [], _, [], hW', trodAll_mk1 (shut_bool Try.underlying4 _), (trodAll_cons_mk (Below.trod laidOut (by kernel_rfl) (of_decide_eq_true (by kernel_rfl)) k0 bel lt0) trodAll_mk0), rfl, bel.frame _, fun h => by cases h⟩

theorem proved : Rows.CoinsPlaySaid :=
  OpenClaim.holds_of_wide 7 Try.f7 rfl rfl rfl rfl rfl rfl rfl ⟨rfl, rfl, rfl, rfl, rfl⟩ rfl rfl rfl rfl rfl (by kernel_rfl) Try.func7 (by kernel_rfl)
    (of_decide_eq_true (by kernel_rfl)) (by unfold Func.isWrapper; first | (rw [if_pos (by decide +kernel)]; kernel_rfl) | (rw [if_neg (by decide +kernel)]; exact ⟨rfl, rfl⟩))
    (fun os started H enc _ => lifted os started H enc)
#print axioms proved
end Go.Proofs.Ytolbbhbfbpiljaa.lawCoinsPlay

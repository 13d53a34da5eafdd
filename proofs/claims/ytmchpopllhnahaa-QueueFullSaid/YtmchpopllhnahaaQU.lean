/- The walk of QueueFull. -/
import Derived.Test.YtmchpopllhnahaaQO
import Derived.Test.YtmchpopllhnahaaQL0
namespace Go.Proofs.Ytmchpopllhnahaa
open Go.RowKit
set_option linter.unusedVariables false
theorem take31 {ps : List Wt} (hl : ps.length = 32) : ps = ps.take 31 ++ [ps.getD 31 noWt] := by
  conv => lhs; rw [← List.take_append_drop 31 ps]
  congr 1
  rw [List.drop_eq_getElem_cons (by omega), List.drop_of_length_le (by omega), List.getD_eq_getElem?_getD, List.getElem?_eq_getElem (by omega)]
  rfl
/-- A push into a full queue. -/
def FullR (xs : List Nat) (k r : Nat) (ps' : List Wt) (wo : Wt) (eo : Int) : Prop :=
  OrdI 1 xs (k + 1) ps' ∧ ps'.length = 32 ∧
    ((eo = 18 ∧ hasP ps' 0 ((k : Int) + 1) = false ∧ ∀ x ∈ ps', cmpK r x.rate ≤ 0) ∨
     (eo = 0 ∧ hasP ps' 0 ((k : Int) + 1) = true ∧ hasP ps' 0 wo.num = false ∧ cmpK wo.rate r < 0 ∧ wo.rate < 2^64 ∧ ∀ x ∈ ps', cmpK wo.rate x.rate ≤ 0))
theorem full_plain {xs : List Nat} {k r : Nat} {ps : List Wt} (h : OrdI 1 xs k ps) (hx : ∀ x ∈ xs, x < 2^64) (hr : xs[k]? = some r) (hl : ps.length = 32) :
    FullR xs k r (pushP ps ⟨0, (k : Int) + 1, r, []⟩).1 (pushP ps ⟨0, (k : Int) + 1, r, []⟩).2.1 (pushP ps ⟨0, (k : Int) + 1, r, []⟩).2.2 := by
  obtain ⟨q, hq⟩ : ∃ q, q = ps.getD 31 noWt := ⟨_, rfl⟩
  have e := take31 hl
  rw [← hq] at e
  have hqm : q ∈ ps := by rw [e]; simp
  have hap : (ps.take 31 ++ [q]).Pairwise Ah := by rw [← e]; exact h.1
  have hnd : ((ps.take 31 ++ [q]).map Wt.num).Nodup := by rw [← e]; exact h.2.1
  rw [List.pairwise_append] at hap
  have hle : ∀ x ∈ ps.take 31, keyW q ≤ keyW x := fun x hx => by
    have := hap.2.2 x hx q (by simp)
    unfold Ah at this
    omega
  have e2 : pushP ps ⟨0, (k : Int) + 1, r, []⟩ = if cmpK r q.rate ≤ 0 then (ps, noWt, 18) else (insP ⟨0, (k : Int) + 1, r, []⟩ (ps.take 31), q, 0) := by
    unfold pushP
    rw [h.has 0, if_neg (by simp), if_pos (by omega), hq]
  rw [e2]
  by_cases hc : cmpK r q.rate ≤ 0
  · rw [if_pos hc]
    refine ⟨h.up, hl, .inl ⟨rfl, h.has 0, fun x hx => ?_⟩⟩
    rw [cmpK_le0] at hc ⊢
    rw [e] at hx
    rcases List.mem_append.1 hx with hx | hx
    · have := hle x hx
      unfold keyW at this; omega
    · rw [List.mem_singleton] at hx; subst hx; exact hc
  · rw [if_neg hc]
    have hqr : keyW q < keyF r := by
      unfold keyW
      rw [cmpK_le0] at hc; omega
    have hlt := h.lt q hqm
    refine ⟨h.ins hr (fun x hx => List.mem_of_mem_take hx) hap.1 (by rw [List.map_append, List.nodup_append] at hnd; exact hnd.1), by rw [insP_length, List.length_take]; omega, .inr ⟨rfl, hasP_true (x := ⟨0, (k : Int) + 1, r, []⟩) (insP_mem.2 (.inl rfl)), hasP_false fun x hx en => ?_, by rw [cmpK_lt]; exact hqr, ?_, fun x hx => ?_⟩⟩
    · rcases insP_mem.1 hx with rfl | hx
      · simp only at en; omega
      · rw [List.map_append, List.nodup_append] at hnd
        exact hnd.2.2 _ (List.mem_map_of_mem hx) _ (by simp) en
    · obtain ⟨_, _, j, _, _, hj⟩ := h.2.2 q hqm
      exact hx _ (List.mem_of_getElem? hj)
    · rw [cmpK_le0]
      rcases insP_mem.1 hx with rfl | hx
      · exact Nat.le_of_lt hqr
      · exact hle x hx
theorem full_push {w : World} {base g : Nat} {M : List Nat} {ps : List Wt} {xs : List Nat} {k : Nat} {r : Nat} (h : QP w base g [] M ps) (ho : OrdI 1 xs k ps) (hx : ∀ x ∈ xs, x < 2^64) (hr : xs[k]? = some r) (hl : ps.length = 32) :
    Calls Try.prog 9 #[.pointer (some ⟨g, 0, none⟩), .agg (wtV nilS ⟨0, (k : Int) + 1, r, []⟩).toArray] w fun e w' => ∃ vo M' ps' wo eo, e = .returned (.tuple #[.agg (wtV vo wo).toArray, .int .i64 eo]) ∧ vo.oneCell' = true ∧ QP w' base g [] M' ps' ∧ Step w M w' M' ∧ FullR xs k r ps' wo eo := by
  refine (lpush_any (v := nilS) (p := ⟨0, (k : Int) + 1, r, []⟩) h (BV.nil w M) ⟨hx _ (List.mem_of_getElem? hr), by simp⟩).mono ?_
  rintro e w' ⟨vo, M', h3, h4, h5, h6⟩
  exact ⟨vo, M', _, _, _, h3, h4.one, h5, h6, full_plain ho hx hr hl⟩
set_option maxRecDepth 100000 in
set_option maxHeartbeats 8000000 in
theorem queueFull_walk (A : Option Addr) (n c : Nat) (xs : List Nat) (w : World) (hs : Sl w w.heap.size 1 A n (xs.map (Value.float .f64))) (hx : ∀ x ∈ xs, x < 2^64) :
    Calls Try.prog 5 #[.slice A n c] w fun e w' => e = .returned (.bool true) ∧ Below w.heap.size w w' := by
  have HS := Lib.hid hs
  have HX := Lib.hid hx
  have HL := Lib.hid (show xs.length = n by have := hs.len; simpa using this)
  have HAW := Lib.hid awake26_any
  clear hs hx
  by_cases hn : n ≤ 60
  · have hn2 : ¬ (60 < (n : Int)) := by omega
    go_enter Try.func5, Try.ntmps5
    go_wp2_with fail
    refine (lnew_any (Nat.le_refl _)).mono ?_
    rintro e w1 ⟨g, rfl, hq, hb, hg⟩
    have HQ := Lib.hid hq
    have HB := Lib.hid (show Below w.heap.size w w1 from hb)
    clear hq hb hg
    go_wp2_with fail
    go_loopw [4] (fun iv wr => ∃ k : Nat, ∃ M ps, k ≤ n ∧ iv = .int .i64 k ∧ Hid (QP wr w.heap.size g [] M ps ∧ OrdI 1 xs k ps ∧ Below w.heap.size w wr)) (fun iv _ => n - (intOf iv).toNat)
    case atStart => exact ⟨0, [g], [], by omega, rfl, Lib.hid ⟨HQ.out, OrdI.start _ _, HB.out⟩⟩
    case round =>
      obtain ⟨k, M, ps, hk, rfl, hI⟩ := hrel
      clear HQ HB
      have HQ := Lib.hid hI.out.1; have HO := Lib.hid hI.out.2.1; have HB := Lib.hid hI.out.2.2
      clear hI
      rename World => w_
      by_cases hlt : k < n
      · obtain ⟨b, off, u, rfl, hbl, hu, hc⟩ := HS.out.at_ hlt
        rw [List.getElem?_map] at hu
        obtain ⟨r, hr, rfl⟩ := Option.map_eq_some_iff.1 hu
        have HR := Lib.hid hr
        have HR64 := Lib.hid (HX.out r (List.mem_of_getElem? hr))
        have HRC := Lib.hid hc
        have HBT := Lib.hid (bt_wr (i := (k : Int) + 1) (r := r))
        obtain ⟨l, hl⟩ : ∃ l, l = ps.length := ⟨_, rfl⟩
        have HLP := Lib.hid hl
        have hl32 : l ≤ 32 := by rw [hl]; exact HQ.out.big
        have HLE := Lib.hid (show Calls Try.prog 14 #[.pointer (some ⟨g, 0, none⟩)] w_ fun e w' => e = .returned (.int .i64 (l : Int)) ∧ w_ = w' by rw [hl]; exact llen_any HQ.out)
        have v1 : IntKind.i64.wrap ((k : Int) + 1) = (k : Int) + 1 := IntWalk.i64_in _ (by omega)
        have v2 : IntKind.i64.wrap ((l : Int) + 1) = (l : Int) + 1 := IntWalk.i64_in _ (by omega)
        have c1 := bcell HB.out HRC.out
        by_cases hl2 : l < 32
        · have HPU := Lib.hid (ord_push (d := 1) HQ.out HO.out HR.out HR64.out (by have := HLP.out; omega))
          obtain ⟨ys, hys⟩ : ∃ x, x = wtV nilS ⟨0, (k : Int) + 1, r, []⟩ := ⟨_, rfl⟩
          rw [← hys] at HPU HBT
          clear hu hr hys hbl hc hl
          go_wp2_with fail
          refine HLE.out.mono ?_
          rintro e w2 ⟨rfl, rfl⟩
          clear HLE
          go_wp2_with (first | (with_reducible refine wpl_stop (o := ⟨some 34, _, _, _, _, _⟩) ?_))
          refine stop_go ?_
          refine wpl_build rfl rfl HBT.out ?_
          go_wp2_with fail
          refine HPU.out.mono ?_
          rintro e w2 ⟨vo, M', ps', rfl, h1, hq, hs, ho, hl⟩
          have HQ2 := Lib.hid hq; have HO2 := Lib.hid ho
          have HL2 := Lib.hid (show Calls Try.prog 14 #[.pointer (some ⟨g, 0, none⟩)] w2 fun e w' => e = .returned (.int .i64 ((l : Int) + 1)) ∧ w2 = w' by
            have h := llen_any hq
            rw [hl, ← HLP.out] at h
            exact h)
          have HB2 := Lib.hid (HQ.out.below HB.out hs)
          have HD := Lib.hid (wtV_cl noWt h1)
          have HN1 := Lib.hid (show (wtV vo noWt)[1]? = some (.int .i64 0) from rfl)
          have HLN := Lib.hid (show ps'.length = l + 1 by rw [hl, HLP.out])
          clear h1 hq hs ho hl HQ HO HB HPU HBT c1 HL2
          obtain ⟨zs, hzs⟩ : ∃ x, x = wtV vo noWt := ⟨_, rfl⟩
          rw [← hzs] at HD HN1 ⊢
          clear hzs
          have HB := HB2
          clear HB2
          try clear w_
          rename World => w_
          go_wp2_with (first | (with_reducible refine wpl_alloc (o := ⟨some 6, _, _, _, _, _⟩) rfl rfl zero_wait ?_))
          intro w1_ hb1_ hbw1_ hsz1_
          have HB1_ := Lib.hid (at_mk hb1_ len_wait)
          have HBW1_ := Lib.hid hbw1_
          have HZ1_ := Lib.hid hsz1_
          clear hb1_ hbw1_ hsz1_
          go_wp2_with (first | (with_reducible refine wpl_storeb (o := ⟨none, .store _ _ _, _, _, _, _⟩) rfl rfl row_wait HB1_.out.blk rfl rfl HB1_.out.len HD.out.len HD.out.one ?_))
          intro w2_ hb2_ hg2_ hsz2_
          have HG_ := Lib.hid HB.out.size
          have hb_ := var_grow HBW1_.out HZ1_.out hg2_
          have HX_ := Lib.hid (at_mk hb2_ HD.out.len)
          clear hb2_ hg2_ hsz2_ HB1_ HBW1_ HZ1_
          have HB_ := Lib.hid (HB.out.grow' hb_)
          clear HB
          have HB := HB_
          clear HB_
          have HQ2_ := Lib.hid (HQ2.out.grow hb_)
          clear HQ2
          have HQ2 := HQ2_
          clear HQ2_
          generalize hg_ : w_.heap.size = g6 at HX_ HG_ ⊢
          clear hg_
          have HV := HX_
          clear hb_ HX_
          clear w1_
          try clear w_
          rename World => w_
          have HV_g := HG_
          clear HG_
          have HL2 := Lib.hid (show Calls Try.prog 14 #[.pointer (some ⟨g, 0, none⟩)] w_ fun e w' => e = .returned (.int .i64 ((l : Int) + 1)) ∧ w_ = w' by
            have h := llen_any HQ2.out
            rw [HLN.out] at h
            exact h)
          have c1 := HV.out.blk.at_ HN1.out
          have b1 : (l : Int) < 32 := by omega
          have b2 : ¬ (32 < (l : Int) + 1) := by omega
          go_wp2_with fail
          refine HL2.out.mono ?_
          rintro e w2 ⟨rfl, rfl⟩
          go_wp2_with fail
          refine HL2.out.mono ?_
          rintro e w2 ⟨rfl, rfl⟩
          go_wp2_with fail
          go_roundw
          all_goals clear v1 v2
          case rel => exact ⟨k + 1, M', ps', by omega, by go_num, Lib.hid ⟨HQ2.out, HO2.out, HB.out⟩⟩
          case measure => simp [intOf]; omega
        · have hl3 : l = 32 := by omega
          subst hl3
          have HPU := Lib.hid (full_push HQ.out HO.out HX.out HR.out HLP.out.symm)
          obtain ⟨ys, hys⟩ : ∃ x, x = wtV nilS ⟨0, (k : Int) + 1, r, []⟩ := ⟨_, rfl⟩
          rw [← hys] at HPU HBT
          clear hu hr hys hbl hc hl v2 hl2 hl32
          go_wp2_with fail
          refine HLE.out.mono ?_
          rintro e w2 ⟨rfl, rfl⟩
          clear HLE
          go_wp2_with (first | (with_reducible refine wpl_stop (o := ⟨some 34, _, _, _, _, _⟩) ?_))
          refine stop_go ?_
          refine wpl_build rfl rfl HBT.out ?_
          go_wp2_with fail
          refine HPU.out.mono ?_
          rintro e w2 ⟨vo, M', ps', wo, eo, rfl, h1, hq, hs, hf⟩
          have HQ2 := Lib.hid hq; have HF := Lib.hid hf
          have HB2 := Lib.hid (HQ.out.below HB.out hs)
          have HD := Lib.hid (wtV_cl wo h1)
          have HN1 := Lib.hid (show (wtV vo wo)[1]? = some (.int .i64 wo.num) from rfl)
          have HN2 := Lib.hid (show (wtV vo wo)[2]? = some (.float .f64 wo.rate) from rfl)
          clear h1 hq hs hf HQ HO HB HPU HBT c1 HLP
          obtain ⟨zs, hzs⟩ : ∃ x, x = wtV vo wo := ⟨_, rfl⟩
          rw [← hzs] at HD HN1 HN2 ⊢
          clear hzs
          have HB := HB2
          clear HB2
          try clear w_
          rename World => w_
          go_wp2_with (first | (with_reducible refine wpl_alloc (o := ⟨some 6, _, _, _, _, _⟩) rfl rfl zero_wait ?_))
          intro w1_ hb1_ hbw1_ hsz1_
          have HB1_ := Lib.hid (at_mk hb1_ len_wait)
          have HBW1_ := Lib.hid hbw1_
          have HZ1_ := Lib.hid hsz1_
          clear hb1_ hbw1_ hsz1_
          go_wp2_with (first | (with_reducible refine wpl_storeb (o := ⟨none, .store _ _ _, _, _, _, _⟩) rfl rfl row_wait HB1_.out.blk rfl rfl HB1_.out.len HD.out.len HD.out.one ?_))
          intro w2_ hb2_ hg2_ hsz2_
          have HG_ := Lib.hid HB.out.size
          have hb_ := var_grow HBW1_.out HZ1_.out hg2_
          have HX_ := Lib.hid (at_mk hb2_ HD.out.len)
          clear hb2_ hg2_ hsz2_ HB1_ HBW1_ HZ1_
          have HB_ := Lib.hid (HB.out.grow' hb_)
          clear HB
          have HB := HB_
          clear HB_
          have HQ2_ := Lib.hid (HQ2.out.grow hb_)
          clear HQ2
          have HQ2 := HQ2_
          clear HQ2_
          generalize hg_ : w_.heap.size = g6 at HX_ HG_ ⊢
          clear hg_
          have HV := HX_
          clear hb_ HX_
          clear w1_
          try clear w_
          rename World => w_
          have HV_g := HG_
          clear HG_
          have HL2 := Lib.hid (show Calls Try.prog 14 #[.pointer (some ⟨g, 0, none⟩)] w_ fun e w' => e = .returned (.int .i64 32) ∧ w_ = w' by
            have h := llen_any HQ2.out
            rw [HF.out.2.1] at h
            exact h)
          have HAL := Lib.hid (show Calls Try.prog 20 #[.pointer (some ⟨g, 0, none⟩)] w_ fun e w' => ∃ A' c' L', e = .returned (.slice A' 32 c') ∧ XAt w' M' A' 32 L' ∧ L'.map Prod.snd = ps' ∧ Grow w_ w' by
            have h := lall_any HQ2.out
            rw [HF.out.2.1] at h
            exact h.mono fun e w' ⟨A', c', L', h1, h2, h3, h4, _⟩ => ⟨A', c', L', h1, h2, h3, h4⟩)
          go_wp2_with fail
          refine HL2.out.mono ?_
          rintro e w2 ⟨rfl, rfl⟩
          clear HL2
          go_wp2_with fail
          refine HAL.out.mono ?_
          rintro e w3_ ⟨A', c', L', rfl, hxa, hmp, hb_⟩
          have HXA := Lib.hid hxa; have HMP := Lib.hid hmp
          have HQ2_ := Lib.hid (HQ2.out.grow hb_); have HV_ := Lib.hid (HV.out.grow hb_); have HB_ := Lib.hid (HB.out.grow' hb_)
          clear hb_ hxa hmp HQ2 HV HB HAL
          have HQ2 := HQ2_; have HV := HV_; have HB := HB_
          clear HQ2_ HV_ HB_
          try clear w_
          rename World => w_
          rcases HF.out.2.2 with ⟨rfl, hh, hall⟩ | ⟨rfl, hh, hh2, hc2, hw64, hall⟩
          · have HHHAS := Lib.hid hh; have HALL := Lib.hid hall
            clear hh hall
            have HHAS := Lib.hid (show Calls Try.prog 21 #[.pointer (some ⟨g, 0, none⟩), .int .i64 0, .int .i64 ((k : Int) + 1)] w_ fun e w' => e = .returned (.bool false) ∧ Grow w_ w' by
              have h := lhas_any HQ2.out 0 ((k : Int) + 1)
              rw [HHHAS.out] at h
              exact h)
            go_wp2_with fail
            refine HHAS.out.mono ?_
            rintro e w3_ ⟨rfl, hb_⟩
            have HQ2_ := Lib.hid (HQ2.out.grow hb_); have HXA_ := Lib.hid (HXA.out.grow hb_); have HV_ := Lib.hid (HV.out.grow hb_); have HB_ := Lib.hid (HB.out.grow' hb_)
            clear hb_ HQ2 HXA HV HB HHAS
            try clear cr
            try clear c2
            try clear c1
            have HQ2 := HQ2_; have HXA := HXA_; have HV := HV_; have HB := HB_
            clear HQ2_ HXA_ HV_ HB_
            try clear w_
            rename World => w_
            have cr := bcell HB.out HRC.out
            have c1 := HV.out.blk.at_ HN1.out
            have c2 := HV.out.blk.at_ HN2.out
            clear c1 c2
            go_wp2_with fail
            go_loopw [10] (fun jv wr => ∃ j : Nat, j ≤ 32 ∧ jv = .int .i64 j ∧ Hid (QP wr w.heap.size g [] M' ps' ∧ XAt wr M' A' 32 L' ∧ Below w.heap.size w wr)) (fun jv _ => 32 - (intOf jv).toNat)
            case atStart => exact ⟨0, by omega, rfl, Lib.hid ⟨HQ2.out, HXA.out, HB.out⟩⟩
            case round =>
              obtain ⟨j, hj, rfl, hI⟩ := hrel
              clear HQ2 HXA HB HV
              have HQ2 := Lib.hid hI.out.1; have HXA := Lib.hid hI.out.2.1; have HB := Lib.hid hI.out.2.2
              clear hI
              rename World => w_
              by_cases hjt : j < 32
              · obtain ⟨b2, off2, q, rfl, hq, hc, _, hok⟩ := HXA.out.at_ hjt
                have c3 : w_.cell? ⟨b2, off2 + j * 4 + 2, none⟩ = some (.float .f64 q.2.rate) := hc 2 _ rfl
                have HC3 := Lib.hid (fun w => refcmp_any r q.2.rate w HR64.out hok.1)
                have HLEZ := Lib.hid (HALL.out q.2 (by rw [← HMP.out]; exact List.mem_map_of_mem (List.mem_of_getElem? hq)))
                obtain ⟨rq, hrq⟩ : ∃ z, z = q.2.rate := ⟨_, rfl⟩
                rw [← hrq] at c3 HC3 HLEZ
                obtain ⟨z, hz⟩ : ∃ z, z = cmpK r rq := ⟨_, rfl⟩
                rw [← hz] at HC3 HLEZ
                have hz0 : ¬ (0 < z) := by have := HLEZ.out; omega
                have v3 : IntKind.i64.wrap ((j : Int) + 1) = (j : Int) + 1 := IntWalk.i64_in _ (by omega)
                clear hq hc hok hrq hz
                go_wp2_with fail
                refine (HC3.out _).mono ?_
                rintro e w3 ⟨rfl, rfl⟩
                clear c3
                go_wp2_with fail
                go_roundw
                all_goals clear v3
                case rel => exact ⟨j + 1, by omega, by go_num, Lib.hid ⟨HQ2.out, HXA.out, HB.out⟩⟩
                case measure => simp [intOf]; omega
              · obtain rfl : j = 32 := by omega
                have v1 : IntKind.i64.wrap ((k : Int) + 1) = (k : Int) + 1 := IntWalk.i64_in _ (by omega)
                go_wp2_with fail
                go_roundw
                all_goals clear v1
                case rel => exact ⟨k + 1, M', ps', by omega, by go_num, Lib.hid ⟨HQ2.out, HF.out.1, HB.out⟩⟩
                case measure => simp [intOf]; omega
          · have HHHAS := Lib.hid hh; have HALL := Lib.hid hall; have HHHAS2 := Lib.hid hh2; have HW64 := Lib.hid hw64
            obtain ⟨z2, hz2⟩ : ∃ z, z = cmpK wo.rate r := ⟨_, rfl⟩
            have HC2 := Lib.hid (fun w => refcmp_any wo.rate r w HW64.out HR64.out)
            rw [← hz2] at HC2 hc2
            have hz20 : ¬ (0 ≤ z2) := by omega
            clear hh hall hh2 hc2 hw64 hz2
            have HHAS := Lib.hid (show Calls Try.prog 21 #[.pointer (some ⟨g, 0, none⟩), .int .i64 0, .int .i64 ((k : Int) + 1)] w_ fun e w' => e = .returned (.bool true) ∧ Grow w_ w' by
              have h := lhas_any HQ2.out 0 ((k : Int) + 1)
              rw [HHHAS.out] at h
              exact h)
            go_wp2_with fail
            refine HHAS.out.mono ?_
            rintro e w3_ ⟨rfl, hb_⟩
            have HQ2_ := Lib.hid (HQ2.out.grow hb_); have HXA_ := Lib.hid (HXA.out.grow hb_); have HV_ := Lib.hid (HV.out.grow hb_); have HB_ := Lib.hid (HB.out.grow' hb_)
            clear hb_ HQ2 HXA HV HB HHAS
            try clear cr
            try clear c2
            try clear c1
            have HQ2 := HQ2_; have HXA := HXA_; have HV := HV_; have HB := HB_
            clear HQ2_ HXA_ HV_ HB_
            try clear w_
            rename World => w_
            have cr := bcell HB.out HRC.out
            have c1 := HV.out.blk.at_ HN1.out
            have c2 := HV.out.blk.at_ HN2.out
            have HHAS2 := Lib.hid (show Calls Try.prog 21 #[.pointer (some ⟨g, 0, none⟩), .int .i64 0, .int .i64 wo.num] w_ fun e w' => e = .returned (.bool false) ∧ Grow w_ w' by
              have h := lhas_any HQ2.out 0 wo.num
              rw [HHHAS2.out] at h
              exact h)
            go_wp2_with fail
            refine HHAS2.out.mono ?_
            rintro e w3_ ⟨rfl, hb_⟩
            have HQ2_ := Lib.hid (HQ2.out.grow hb_); have HXA_ := Lib.hid (HXA.out.grow hb_); have HV_ := Lib.hid (HV.out.grow hb_); have HB_ := Lib.hid (HB.out.grow' hb_)
            clear hb_ HQ2 HXA HV HB HHAS2
            try clear cr
            try clear c2
            try clear c1
            have HQ2 := HQ2_; have HXA := HXA_; have HV := HV_; have HB := HB_
            clear HQ2_ HXA_ HV_ HB_
            try clear w_
            rename World => w_
            have cr := bcell HB.out HRC.out
            have c1 := HV.out.blk.at_ HN1.out
            have c2 := HV.out.blk.at_ HN2.out
            go_wp2_with fail
            refine (HC2.out _).mono ?_
            rintro e w3_ ⟨rfl, rfl⟩
            clear c1 c2 cr
            go_wp2_with fail
            go_loopw [10] (fun jv wr => ∃ j : Nat, j ≤ 32 ∧ jv = .int .i64 j ∧ Hid (QP wr w.heap.size g [] M' ps' ∧ XAt wr M' A' 32 L' ∧ Below w.heap.size w wr)) (fun jv _ => 32 - (intOf jv).toNat)
            case atStart => exact ⟨0, by omega, rfl, Lib.hid ⟨HQ2.out, HXA.out, HB.out⟩⟩
            case round =>
              obtain ⟨j, hj, rfl, hI⟩ := hrel
              clear HQ2 HXA HB HV
              have HQ2 := Lib.hid hI.out.1; have HXA := Lib.hid hI.out.2.1; have HB := Lib.hid hI.out.2.2
              clear hI
              rename World => w_
              by_cases hjt : j < 32
              · obtain ⟨b2, off2, q, rfl, hq, hc, _, hok⟩ := HXA.out.at_ hjt
                have c3 : w_.cell? ⟨b2, off2 + j * 4 + 2, none⟩ = some (.float .f64 q.2.rate) := hc 2 _ rfl
                have HC3 := Lib.hid (fun w => refcmp_any wo.rate q.2.rate w HW64.out hok.1)
                have HLEZ := Lib.hid (HALL.out q.2 (by rw [← HMP.out]; exact List.mem_map_of_mem (List.mem_of_getElem? hq)))
                obtain ⟨rq, hrq⟩ : ∃ z, z = q.2.rate := ⟨_, rfl⟩
                rw [← hrq] at c3 HC3 HLEZ
                obtain ⟨z, hz⟩ : ∃ z, z = cmpK wo.rate rq := ⟨_, rfl⟩
                rw [← hz] at HC3 HLEZ
                have hz0 : ¬ (0 < z) := by have := HLEZ.out; omega
                have v3 : IntKind.i64.wrap ((j : Int) + 1) = (j : Int) + 1 := IntWalk.i64_in _ (by omega)
                clear hq hc hok hrq hz
                go_wp2_with fail
                refine (HC3.out _).mono ?_
                rintro e w3 ⟨rfl, rfl⟩
                clear c3
                go_wp2_with fail
                go_roundw
                all_goals clear v3
                case rel => exact ⟨j + 1, by omega, by go_num, Lib.hid ⟨HQ2.out, HXA.out, HB.out⟩⟩
                case measure => simp [intOf]; omega
              · obtain rfl : j = 32 := by omega
                have v1 : IntKind.i64.wrap ((k : Int) + 1) = (k : Int) + 1 := IntWalk.i64_in _ (by omega)
                go_wp2_with fail
                go_roundw
                all_goals clear v1
                case rel => exact ⟨k + 1, M', ps', by omega, by go_num, Lib.hid ⟨HQ2.out, HF.out.1, HB.out⟩⟩
                case measure => simp [intOf]; omega
      · obtain rfl : k = n := by omega
        go_wp2_with fail
        refine (HAW.out _).mono ?_
        rintro e w2 ⟨rfl, hb⟩
        have HB2 := Lib.hid (HB.out.grow' hb)
        clear hb
        go_wp2_with fail
        go_ret
        exact ⟨rfl, HB2.out⟩
  · have hn2 : (60 < (n : Int)) := by omega
    go_enter Try.func5, Try.ntmps5
    go_wp2_with fail
    refine (HAW.out _).mono ?_
    rintro e w1 ⟨rfl, hb⟩
    have HB := Lib.hid hb
    clear hb
    go_wp2_with fail
    go_ret
    exact ⟨rfl, HB.out⟩
end Go.Proofs.Ytmchpopllhnahaa

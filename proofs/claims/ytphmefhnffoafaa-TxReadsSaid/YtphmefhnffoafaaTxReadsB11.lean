/- The document's Take of a number, and of a text. -/
import Derived.Test.YtphmefhnffoafaaTxReadsB10
import Derived.Deep.CutBlock
set_option linter.unusedSimpArgs false
/- The document's Take of a number, and of a text. -/
namespace Go.Proofs.Ytphmefhnffoafaa
open Go.RowKit Go.Shelf
set_option linter.unusedVariables false
def NumK (kd m : Nat) (l : List UInt8) (Bd : Nat) (w w' : World) (e : Ending) : Prop := if kd = 0 then GotR (numR m l) numF Bd w w' e else GotR (textR m l) (textF Bd) Bd w w' e
theorem NumK.err {kd m Bd : Nat} {l : List UInt8} {w w' : World} {e : Ending} {x : Nat} (hr : numR m l = .error x) (he : e = .returned (.agg (gotV noF (x : Int) nilS).toArray)) (hg : Grow w w') : NumK kd m l Bd w w' e := by
  unfold NumK
  split
  · exact .err hr he hg
  · exact .err (by unfold textR; rw [hr]) he hg
theorem mul_u64 (v : Nat) (h : v * 256 ≤ 18446744073709551615) : IntKind.u64.wrap ((v : Int) * 256) = ((v * 256 : Nat) : Int) := by
  rw [IntKind.wrap_u64]; omega
theorem add_u64 (v c : Nat) (h : v * 256 + c ≤ 18446744073709551615) : IntKind.u64.wrap (((v * 256 : Nat) : Int) + (c : Int)) = ((v * 256 + c : Nat) : Int) := by
  rw [IntKind.wrap_u64]; omega
set_option maxRecDepth 100000 in
set_option maxHeartbeats 8000000 in
theorem rtake_k {kd Bd : Nat} {A : Option Addr} {n c : Nat} {l : List UInt8} {m : Nat} (hk : kd = 0 ∨ kd = 1) (w : World) (hs : Sl w Bd 1 A n (l.map B)) (hbd : Bd ≤ w.heap.size) (hc : n ≤ c) (hn : n ≤ 1000000) (hm : m ≤ 18446744073709551615) :
    Calls Try.prog 30 #[.slice A n c, .agg (fieldV (kd : Int) (m : Int) nilS zeroD).toArray] w fun e w' => NumK kd m l Bd w w' e := by
  have HS := Lib.hid hs
  have HBD := Lib.hid hbd
  clear hbd
  have hln : l.length = n := by have := hs.len; simpa using this
  have HFC := Lib.hid (show Cl 35 (fieldV (kd : Int) (m : Int) nilS zeroD) from fieldV_cl rfl (by simp [zeroD]))
  have IF := Lib.hid (show (fieldV (kd : Int) (m : Int) nilS zeroD)[0]? = some (.int .i64 (kd : Int)) from rfl)
  have IF1 := Lib.hid (show (fieldV (kd : Int) (m : Int) nilS zeroD)[1]? = some (.int .u64 (m : Int)) from rfl)
  obtain ⟨fv, hfv⟩ : ∃ v, v = fieldV (kd : Int) (m : Int) nilS zeroD := ⟨_, rfl⟩
  rw [← hfv] at HFC IF IF1 ⊢
  have dk2 : ((kd : Int) == 2) = false := by rcases hk with rfl | rfl <;> rfl
  obtain ⟨ge2, h2⟩ : ∃ v, v = gotV noF ((2 : Nat) : Int) nilS := ⟨_, rfl⟩
  obtain ⟨ge3, h3⟩ : ∃ v, v = gotV noF ((3 : Nat) : Int) nilS := ⟨_, rfl⟩
  obtain ⟨ge5, h5⟩ : ∃ v, v = gotV noF ((5 : Nat) : Int) nilS := ⟨_, rfl⟩
  have HC2 := Lib.hid (show Cl 37 ge2 by rw [h2]; exact gotV_cl noF_cl rfl)
  have HC3 := Lib.hid (show Cl 37 ge3 by rw [h3]; exact gotV_cl noF_cl rfl)
  have HC5 := Lib.hid (show Cl 37 ge5 by rw [h5]; exact gotV_cl noF_cl rfl)
  have TE2 := Lib.hid (show Try.prog.built 77 [(1, .int .i64 2)] = some ge2.toArray by rw [h2]; exact bt_gote)
  have TE3 := Lib.hid (show Try.prog.built 77 [(1, .int .i64 3)] = some ge3.toArray by rw [h3]; exact bt_gote)
  have TE5 := Lib.hid (show Try.prog.built 77 [(1, .int .i64 5)] = some ge5.toArray by rw [h5]; exact bt_gote)
  have HE2 := Lib.hid h2; have HE3 := Lib.hid h3; have HE5 := Lib.hid h5
  obtain ⟨w_, hw⟩ : ∃ x, x = w := ⟨_, rfl⟩
  have HB := Lib.hid (show Below w.heap.size w w_ by rw [hw]; exact Below.refl _ _)
  suffices H : Calls Try.prog 30 #[.slice A n c, .agg fv.toArray] w_ fun e w' => NumK kd m l Bd w w' e by rw [hw] at H; exact H
  clear hw hs hfv h2 h3 h5
  cases l with
  | nil =>
    obtain rfl : 0 = n := hln
    go_enter Try.func30, Try.ntmps30
    go_wp2_with (first | (with_reducible refine wpl_box (o := ⟨some 3, _, _, _, _, _⟩) rfl rfl rfl ?_))
    intro w2_ hb2_ hb_ hsz2_
    have HX_ := Lib.hid (at_mk hb2_ HFC.out.len)
    clear hb2_ hsz2_
    have HG_ := Lib.hid HB.out.size
    have HB_ := Lib.hid (HB.out.grow' hb_)
    clear HB
    have HB := HB_
    clear HB_
    generalize hg_ : w_.heap.size = g3 at HX_ HG_ ⊢
    clear hg_
    have HF_g := HG_
    clear HG_
    have HF := HX_
    clear hb_ HX_
    try clear w_
    rename World => w_
    go_wp2_with (first | (with_reducible refine wpl_alloc (o := ⟨some 4, _, _, _, _, _⟩) rfl rfl zero_got ?_))
    intro w2_ hb2_ hb_ hsz2_
    have HX_ := Lib.hid (at_mk hb2_ len_got)
    clear hb2_ hsz2_
    have HG_ := Lib.hid HB.out.size
    have HB_ := Lib.hid (HB.out.grow' hb_)
    clear HB
    have HB := HB_
    clear HB_
    have HF_ := Lib.hid (HF.out.grow hb_)
    clear HF
    have HF := HF_
    clear HF_
    generalize hg_ : w_.heap.size = g4 at HX_ HG_ ⊢
    clear hg_
    have HV_g := HG_
    clear HG_
    have HV := HX_
    clear hb_ HX_
    try clear w_
    rename World => w_
    have c0 := HF.out.blk.at_ IF.out
    go_wp2_with (first | (with_reducible refine wpl_stop (o := ⟨some 38, _, _, _, _, _⟩) ?_))
    refine stop_go ?_
    refine wpl_build rfl rfl TE2.out ?_
    go_wp2_with (first | (with_reducible refine wpl_storeb (o := ⟨none, .store _ _ _, _, _, _, _⟩) rfl rfl row_got HV.out.blk rfl rfl HV.out.len HC2.out.len HC2.out.one ?_))
    intro w2_ hb2_ hg2_ hsz2_
    have HB_ := Lib.hid (put_below HB.out HV_g.out hg2_)
    have HX_ := Lib.hid (at_mk hb2_ HC2.out.len)
    clear hb2_ hg2_ hsz2_ HB HV
    have HB := HB_
    have HV := HX_
    clear HB_ HX_
    try clear w_
    rename World => w_
    clear c0
    go_wp2_with fail
    refine ret_cell rfl row_got HV.out.blk rfl HV.out.len rfl ?_
    exact .err (x := 2) rfl (by rw [HE2.out]) HB.out
  | cons k t =>
    obtain ⟨kn, hkn⟩ : ∃ q, q = k.toNat := ⟨_, rfl⟩
    have hk8 : kn < 256 := by rw [hkn]; exact k.toNat_lt
    have htl0 : n = t.length + 1 := by rw [← hln]; rfl
    have HTL := Lib.hid htl0
    have hn1 : 1 ≤ n := by omega
    have HRQ : Hid (numR m (k :: t) = if 8 < kn then .error 3 else if t.length < kn then .error 2 else if 0 < kn ∧ t[0]? = some 0 then .error 3 else if m < valB (t.take kn) then .error 5 else .ok (valB (t.take kn), t.drop kn)) := Lib.hid (by rw [hkn]; rfl)
    obtain ⟨b, off, hA, hb, hcell⟩ := HS.out.2 (by omega)
    subst hA
    have HCELL := Lib.hid hcell
    have C00 := Lib.hid (show w.cell? ⟨b, off + 0, none⟩ = some (.int .u8 (kn : Int)) from hcell 0 (.int .u8 (kn : Int)) (by rw [hkn]; rfl))
    have C01 := Lib.hid (show 0 < t.length → w.cell? ⟨b, off + 1, none⟩ = some (.int .u8 ((t.getD 0 0).toNat : Int)) from fun hp => hcell 1 _ (by
      cases t with
      | nil => simp at hp
      | cons x t => rfl))
    have CJ := Lib.hid (show ∀ (j : Nat) (x : UInt8), t[j]? = some x → w.cell? ⟨b, off + (j + 1), none⟩ = some (.int .u8 (x.toNat : Int)) from fun j x hx => hcell (j + 1) _ (by simp [hx, B, b8]))
    clear hkn hcell hb hln htl0
    have dn0 : ((n : Int) == 0) = false := by simp; omega
    go_enter Try.func30, Try.ntmps30
    go_wp2_with (first | (with_reducible refine wpl_box (o := ⟨some 3, _, _, _, _, _⟩) rfl rfl rfl ?_))
    intro w2_ hb2_ hb_ hsz2_
    have HX_ := Lib.hid (at_mk hb2_ HFC.out.len)
    clear hb2_ hsz2_
    have HG_ := Lib.hid HB.out.size
    have HB_ := Lib.hid (HB.out.grow' hb_)
    clear HB
    have HB := HB_
    clear HB_
    generalize hg_ : w_.heap.size = g3 at HX_ HG_ ⊢
    clear hg_
    have HF_g := HG_
    clear HG_
    have HF := HX_
    clear hb_ HX_
    try clear w_
    rename World => w_
    go_wp2_with (first | (with_reducible refine wpl_alloc (o := ⟨some 4, _, _, _, _, _⟩) rfl rfl zero_got ?_))
    intro w2_ hb2_ hb_ hsz2_
    have HX_ := Lib.hid (at_mk hb2_ len_got)
    clear hb2_ hsz2_
    have HG_ := Lib.hid HB.out.size
    have HB_ := Lib.hid (HB.out.grow' hb_)
    clear HB
    have HB := HB_
    clear HB_
    have HF_ := Lib.hid (HF.out.grow hb_)
    clear HF
    have HF := HF_
    clear HF_
    generalize hg_ : w_.heap.size = g4 at HX_ HG_ ⊢
    clear hg_
    have HV_g := HG_
    clear HG_
    have HV := HX_
    clear hb_ HX_
    try clear w_
    rename World => w_
    have c0 := HF.out.blk.at_ IF.out
    have c1 := HF.out.blk.at_ IF1.out
    have c2 := bcell HB.out C00.out
    rw [Nat.add_zero] at c2
    have qw : IntKind.i64.wrap (kn : Int) = (kn : Int) := IntWalk.i64_in _ (by omega)
    by_cases h8 : 8 < kn
    · have d8 : decide ((8 : Int) < (kn : Int)) = true := by simp; omega
      go_wp2_with (first | (with_reducible refine wpl_stop (o := ⟨some 45, _, _, _, _, _⟩) ?_))
      refine stop_go ?_
      refine wpl_build rfl rfl TE3.out ?_
      go_wp2_with (first | (with_reducible refine wpl_storeb (o := ⟨none, .store _ _ _, _, _, _, _⟩) rfl rfl row_got HV.out.blk rfl rfl HV.out.len HC3.out.len HC3.out.one ?_))
      intro w2_ hb2_ hg2_ hsz2_
      have HB_ := Lib.hid (put_below HB.out HV_g.out hg2_)
      have HX_ := Lib.hid (at_mk hb2_ HC3.out.len)
      clear hb2_ hg2_ hsz2_ HB HV
      have HB := HB_
      have HV := HX_
      clear HB_ HX_
      try clear w_
      rename World => w_
      go_wp2_with fail
      refine ret_cell rfl row_got HV.out.blk rfl HV.out.len rfl ?_
      exact .err (x := 3) (by rw [HRQ.out, if_pos h8]) (by rw [HE3.out]) HB.out
    have d8 : decide ((8 : Int) < (kn : Int)) = false := by simp; omega
    obtain ⟨k1, hk1⟩ : ∃ q, q = kn + 1 := ⟨_, rfl⟩
    have v1 : IntKind.i64.wrap (1 + (kn : Int)) = (k1 : Int) := by rw [IntWalk.i64_in _ (by omega)]; omega
    have v2 : RowKit.wrap64 (1 + (kn : Int)) = (k1 : Int) := by rw [wrap64_in _ (by omega)]; omega
    have HK1 := Lib.hid hk1
    clear hk1
    by_cases ht : n < k1
    · have d9 : decide ((n : Int) < (k1 : Int)) = true := by simp; omega
      go_wp2_with (first | (with_reducible refine wpl_stop (o := ⟨some 51, _, _, _, _, _⟩) ?_))
      refine stop_go ?_
      refine wpl_build rfl rfl TE2.out ?_
      go_wp2_with (first | (with_reducible refine wpl_storeb (o := ⟨none, .store _ _ _, _, _, _, _⟩) rfl rfl row_got HV.out.blk rfl rfl HV.out.len HC2.out.len HC2.out.one ?_))
      intro w2_ hb2_ hg2_ hsz2_
      have HB_ := Lib.hid (put_below HB.out HV_g.out hg2_)
      have HX_ := Lib.hid (at_mk hb2_ HC2.out.len)
      clear hb2_ hg2_ hsz2_ HB HV
      have HB := HB_
      have HV := HX_
      clear HB_ HX_
      try clear w_
      rename World => w_
      go_wp2_with fail
      refine ret_cell rfl row_got HV.out.blk rfl HV.out.len rfl ?_
      exact .err (x := 2) (by rw [HRQ.out, if_neg h8, if_pos (by have := HK1.out; have := HTL.out; omega)]) (by rw [HE2.out]) HB.out
    have d9 : decide ((n : Int) < (k1 : Int)) = false := by simp; omega
    have htk : kn ≤ t.length := by have := HK1.out; have := HTL.out; omega
    have HT2 := Lib.hid (show ¬ t.length < kn by omega)
    obtain ⟨bs, hbs⟩ : ∃ q, q = t.take kn := ⟨_, rfl⟩
    have HBL := Lib.hid (show bs.length = kn by rw [hbs, List.length_take]; omega)
    have HBS := Lib.hid hbs
    rw [← hbs] at HRQ
    have CB := Lib.hid (show ∀ (j : Nat) (x : UInt8), bs[j]? = some x → w.cell? ⟨b, off + (j + 1), none⟩ = some (.int .u8 (x.toNat : Int)) from fun j x hx => CJ.out j x (by rw [hbs, List.getElem?_take] at hx; split at hx; exact hx; cases hx))
    clear hbs
    obtain ⟨xn, hxn⟩ : ∃ q, q = (t.getD 0 0).toNat := ⟨_, rfl⟩
    have HXN := Lib.hid hxn
    rw [← hxn] at C01
    clear hxn
    obtain ⟨p2, hp2⟩ : ∃ p, ((xn : Int) == 0) = p := ⟨_, rfl⟩
    have HP := Lib.hid (show 0 < kn → (p2 = true ↔ t[0]? = some 0) from fun hp => by
      rw [← hp2, beq_iff_eq, HXN.out]
      cases t with
      | nil => simp at htk; omega
      | cons x t =>
        simp only [List.getD_cons_zero, List.getElem?_cons_zero, Option.some.injEq]
        constructor
        · intro h; exact UInt8.toNat_inj.1 (by show x.toNat = 0; omega)
        · intro h; rw [h]; rfl)
    obtain ⟨zz, hzz⟩ : ∃ q, q = decide (0 < kn ∧ t[0]? = some 0) := ⟨_, rfl⟩
    have HZZ := Lib.hid hzz
    clear hzz
    go_upto_region 17 with fail
    go_cut [59] from 60 (fun s59 wr => s59 = .bool zz ∧ wr = w_)
    case first =>
      by_cases hk0 : 0 < kn
      · have d0 : decide ((0 : Int) < (kn : Int)) = true := by simp; omega
        have hn2 : 1 < n := by have := HTL.out; omega
        have c3 := bcell HB.out (C01.out (by omega))
        have hz : zz = p2 := by
          rw [HZZ.out, Bool.eq_iff_iff, decide_eq_true_iff]
          exact ⟨fun h => (HP.out hk0).2 h.2, fun h => ⟨hk0, (HP.out hk0).1 h⟩⟩
        have HZ := Lib.hid hz
        clear hz
        go_wp2_with fail
        all_goals (go_meet; case rel => exact ⟨by rw [HZ.out], rfl⟩)
      · have d0 : decide ((0 : Int) < (kn : Int)) = false := by simp; omega
        have HZ := Lib.hid (show zz = false by rw [HZZ.out]; simp; omega)
        go_wp2_with fail
        go_meet
        case rel => exact ⟨by rw [HZ.out], rfl⟩
    case rest =>
      obtain ⟨rfl, rfl⟩ := hcut
      cases zz with
      | true =>
        go_wp2_with (first | (with_reducible refine wpl_stop (o := ⟨some 60, _, _, _, _, _⟩) ?_))
        refine stop_go ?_
        refine wpl_build rfl rfl TE3.out ?_
        go_wp2_with (first | (with_reducible refine wpl_storeb (o := ⟨none, .store _ _ _, _, _, _, _⟩) rfl rfl row_got HV.out.blk rfl rfl HV.out.len HC3.out.len HC3.out.one ?_))
        intro w2_ hb2_ hg2_ hsz2_
        have HB_ := Lib.hid (put_below HB.out HV_g.out hg2_)
        have HX_ := Lib.hid (at_mk hb2_ HC3.out.len)
        clear hb2_ hg2_ hsz2_ HB HV
        have HB := HB_
        have HV := HX_
        clear HB_ HX_
        try clear w_
        rename World => w_
        go_wp2_with fail
        refine ret_cell rfl row_got HV.out.blk rfl HV.out.len rfl ?_
        exact .err (x := 3) (by rw [HRQ.out, if_neg h8, if_neg HT2.out, if_pos (of_decide_eq_true HZZ.out.symm)]) (by rw [HE3.out]) HB.out
      | false =>
        have HNZ := Lib.hid (show ¬ (0 < kn ∧ t[0]? = some 0) from of_decide_eq_false HZZ.out.symm)
        clear c2 qw dn0 d8 d9 v1 v2
        rename World => w_
        have HM := Lib.hid hm
        go_upto_block 2 with fail
        go_cut [8] from 60 (fun s8 wr => s8 = .int .u64 ((valB bs : Nat) : Int) ∧ wr = w_)
        case first =>
          go_wp2_with fail
          go_loopw [8, 9] (fun vv iv wr => ∃ i : Nat, 1 ≤ i ∧ i ≤ kn + 1 ∧ iv = .int .i64 i ∧ vv = .int .u64 ((valB (bs.take (i - 1)) : Nat) : Int) ∧ wr = w_) (fun _ iv _ => kn + 1 - (intOf iv).toNat)
          case atStart => exact ⟨1, by omega, by omega, rfl, rfl, rfl⟩
          case round =>
            obtain ⟨i, hi1, hi2, rfl, rfl, rfl⟩ := hrel
            by_cases hlt : i ≤ kn
            · obtain ⟨x, hx⟩ : ∃ x, bs[i - 1]? = some x := ⟨bs[i - 1]'(by rw [HBL.out]; omega), List.getElem?_eq_getElem _⟩
              obtain ⟨cn, hcn⟩ : ∃ q, q = x.toNat := ⟨_, rfl⟩
              have hc256 : cn < 256 := by rw [hcn]; exact x.toNat_lt
              have cx := bcell HB.out (CB.out (i - 1) x hx)
              rw [show off + (i - 1 + 1) = off + i by omega, ← hcn] at cx
              obtain ⟨v, hv⟩ : ∃ v, v = valB (bs.take (i - 1)) := ⟨_, rfl⟩
              have hv64 : v * 256 + 255 ≤ 18446744073709551615 := by
                have := valB_lt 7 (bs.take (i - 1)) (by rw [List.length_take]; omega)
                rw [← hv] at this; omega
              have HST := Lib.hid (show ((v * 256 + cn : Nat) : Int) = ((valB (bs.take (i + 1 - 1)) : Nat) : Int) by
                rw [show i + 1 - 1 = (i - 1) + 1 by omega, valB_cons (c := 0) hx, ← hv, hcn])
              rw [← hv]
              have d0 : decide ((i : Int) ≤ (kn : Int)) = true := by simp; omega
              have hin : i < n := by have := HTL.out; omega
              have s1 := mul_u64 v (by omega)
              have s2 : IntKind.u64.wrap (cn : Int) = (cn : Int) := by rw [IntKind.wrap_u64]; omega
              have s3 := add_u64 v cn (by omega)
              have v3 : IntKind.i64.wrap ((i : Int) + 1) = (i : Int) + 1 := IntWalk.i64_in _ (by omega)
              have v4 : RowKit.wrap64 ((i : Int) + 1) = (i : Int) + 1 := wrap64_in _ (by omega)
              clear hv hx hcn
              go_wp2_with fail
              go_roundw
              all_goals clear s1 s2 s3 v3 v4 hv64 d0 cx
              case rel => exact ⟨i + 1, by omega, by omega, by go_num, congrArg (Value.int .u64) (by rw [← HST.out]; omega), by first | trivial | rfl⟩
              case measure => simp [intOf]; omega
            · obtain rfl : i = kn + 1 := by omega
              have d0 : decide (((kn + 1 : Nat) : Int) ≤ (kn : Int)) = false := by simp; omega
              have HALL := Lib.hid (show bs.take (kn + 1 - 1) = bs from List.take_of_length_le (by rw [HBL.out]; omega))
              rw [HALL.out]
              obtain ⟨q, hq⟩ : ∃ q, q = ((kn + 1 : Nat) : Int) := ⟨_, rfl⟩
              rw [← hq] at d0 ⊢
              clear hq
              go_wp2_with fail
              go_meet
              case rel => exact ⟨rfl, rfl⟩
        case rest =>
          obtain ⟨rfl, rfl⟩ := hcut
          rename World => w_
          obtain ⟨v, hv⟩ : ∃ v, v = valB bs := ⟨_, rfl⟩
          have HVB := Lib.hid hv
          rw [← hv] at HRQ ⊢
          have hv64 : v ≤ 18446744073709551615 := by rw [hv]; exact valB_64 (by rw [HBL.out]; omega)
          clear hv
          by_cases hvm : m < v
          · have d0 : decide ((m : Int) < (v : Int)) = true := by simp; omega
            go_wp2_with (first | (with_reducible refine wpl_stop (o := ⟨some 78, _, _, _, _, _⟩) ?_))
            refine stop_go ?_
            refine wpl_build rfl rfl TE5.out ?_
            go_wp2_with (first | (with_reducible refine wpl_storeb (o := ⟨none, .store _ _ _, _, _, _, _⟩) rfl rfl row_got HV.out.blk rfl rfl HV.out.len HC5.out.len HC5.out.one ?_))
            intro w2_ hb2_ hg2_ hsz2_
            have HB_ := Lib.hid (put_below HB.out HV_g.out hg2_)
            have HX_ := Lib.hid (at_mk hb2_ HC5.out.len)
            clear hb2_ hg2_ hsz2_ HB HV
            have HB := HB_
            have HV := HX_
            clear HB_ HX_
            try clear w_
            rename World => w_
            go_wp2_with fail
            refine ret_cell rfl row_got HV.out.blk rfl HV.out.len rfl ?_
            exact .err (x := 5) (by rw [HRQ.out, if_neg h8, if_neg HT2.out, if_neg HNZ.out, if_pos hvm]) (by rw [HE5.out]) HB.out
          have d0 : decide ((m : Int) < (v : Int)) = false := by simp; omega
          have v1 : IntKind.i64.wrap (1 + (kn : Int)) = (k1 : Int) := by have := HK1.out; rw [IntWalk.i64_in _ (by omega)]; omega
          have v2 : RowKit.wrap64 (1 + (kn : Int)) = (k1 : Int) := by have := HK1.out; rw [wrap64_in _ (by omega)]; omega
          have HRES := Lib.hid (show numR m (k :: t) = .ok (v, t.drop kn) by rw [HRQ.out, if_neg h8, if_neg HT2.out, if_neg HNZ.out, if_neg hvm])
          have hle : k1 ≤ n := by omega
          obtain ⟨nl, hnl⟩ : ∃ q, q = (t.drop kn).length := ⟨_, rfl⟩
          have HNL := Lib.hid (show n - k1 = nl by have := HK1.out; have := HTL.out; rw [hnl, List.length_drop]; omega)
          have HDL := Lib.hid hnl.symm
          clear hnl
          go_upto_region 26 with fail
          go_cut [10] from 60 (fun s10 wr => (∃ A' c', s10 = .slice A' nl c' ∧ Hid (Sl w Bd 1 A' nl ((t.drop kn).map B) ∧ nl ≤ c')) ∧ wr = w_)
          case first =>
            by_cases hck : c = k1
            · obtain rfl : n = k1 := by omega
              subst hck
              go_wp2_with fail
              go_meet
              case rel =>
                rw [← HNL.out]
                refine ⟨⟨some ⟨b, off, none⟩, 0, by rw [Nat.sub_self], Lib.hid ⟨⟨by rw [List.length_map, HDL.out, ← HNL.out]; omega, fun h => absurd h (by omega)⟩, by omega⟩⟩, rfl⟩
            · have hcf : (c = k1) = False := eq_false hck
              go_wp2_with fail
              go_meet
              case rel =>
                rw [← HNL.out]
                refine ⟨⟨some ⟨b, off + k1, none⟩, c - k1, rfl, Lib.hid ⟨?_, by omega⟩⟩, rfl⟩
                have h9 := HS.out.from_ hle
                have h10 : (List.map B (k :: t)).drop k1 = (t.drop kn).map B := by rw [HK1.out, List.map_cons, List.drop_succ_cons, List.map_drop]
                rw [h10] at h9
                exact h9
          case rest =>
            obtain ⟨⟨AL, cL, rfl, hL⟩, rfl⟩ := hcut
            rename World => w_
            clear v1 v2
            rcases hk with rfl | rfl
            · have TF := Lib.hid (bt_fldn (n := (v : Int)))
              have HF2 := Lib.hid (show Cl 35 (fieldV 0 (v : Int) nilS zeroD) from fieldV_cl rfl (by simp [zeroD]))
              have TG := Lib.hid (bt_got (A := AL) (n := nl) (c := cL) HF2.out)
              obtain ⟨f2, hf2⟩ : ∃ q, q = fieldV 0 (v : Int) nilS zeroD := ⟨_, rfl⟩
              have HFE := Lib.hid hf2
              rw [← hf2] at TF HF2 TG
              obtain ⟨g2, hg2⟩ : ∃ q, q = gotV f2 0 (.slice AL nl cL) := ⟨_, rfl⟩
              have HG2 := Lib.hid (show Cl 37 g2 by rw [hg2]; exact gotV_cl HF2.out rfl)
              have HGE := Lib.hid hg2
              rw [← hg2] at TG
              clear hf2 hg2
              go_wp2_with (first | (with_reducible refine wpl_stop (o := ⟨some 87, _, _, _, _, _⟩) ?_))
              refine stop_go ?_
              refine wpl_build rfl rfl TF.out ?_
              go_wp2_with (first | (with_reducible refine wpl_stop (o := ⟨some 89, _, _, _, _, _⟩) ?_))
              refine stop_go ?_
              refine wpl_build rfl rfl TG.out ?_
              go_wp2_with (first | (with_reducible refine wpl_storeb (o := ⟨none, .store _ _ _, _, _, _, _⟩) rfl rfl row_got HV.out.blk rfl rfl HV.out.len HG2.out.len HG2.out.one ?_))
              intro w2_ hb2_ hg2_ hsz2_
              have HB_ := Lib.hid (put_below HB.out HV_g.out hg2_)
              have HX_ := Lib.hid (at_mk hb2_ HG2.out.len)
              clear hb2_ hg2_ hsz2_ HB HV
              have HB := HB_
              have HV := HX_
              clear HB_ HX_
              try clear w_
              rename World => w_
              go_wp2_with fail
              refine ret_cell rfl row_got HV.out.blk rfl HV.out.len rfl ?_
              unfold NumK
              rw [if_pos rfl]
              exact .ok (v := v) (t := t.drop kn) (f := f2) (A := AL) (c := cL) HRES.out (by rw [HGE.out, HDL.out]) HF2.out HFE.out (by rw [HDL.out]; exact hL.out.1.below (HB.out.mono HBD.out)) (by rw [HDL.out]; exact hL.out.2) HB.out
            · have s1 : IntKind.u64.wrap (nl : Int) = (nl : Int) := IntWalk.u64_in _ (by have := HNL.out; omega)
              by_cases hnv : nl < v
              · have d3 : decide ((nl : Int) < (v : Int)) = true := by simp; omega
                go_wp2_with (first | (with_reducible refine wpl_stop (o := ⟨some 95, _, _, _, _, _⟩) ?_))
                refine stop_go ?_
                refine wpl_build rfl rfl TE2.out ?_
                go_wp2_with (first | (with_reducible refine wpl_storeb (o := ⟨none, .store _ _ _, _, _, _, _⟩) rfl rfl row_got HV.out.blk rfl rfl HV.out.len HC2.out.len HC2.out.one ?_))
                intro w2_ hb2_ hg2_ hsz2_
                have HB_ := Lib.hid (put_below HB.out HV_g.out hg2_)
                have HX_ := Lib.hid (at_mk hb2_ HC2.out.len)
                clear hb2_ hg2_ hsz2_ HB HV
                have HB := HB_
                have HV := HX_
                clear HB_ HX_
                try clear w_
                rename World => w_
                go_wp2_with fail
                refine ret_cell rfl row_got HV.out.blk rfl HV.out.len rfl ?_
                unfold NumK
                rw [if_neg (by omega)]
                exact .err (x := 2) (by unfold textR; rw [HRES.out]; simp only; unfold takeR; rw [if_neg (by rw [HDL.out]; omega)]) (by rw [HE2.out]) HB.out
              · have d3 : decide ((nl : Int) < (v : Int)) = false := by simp; omega
                have HDR := Lib.hid (show textR m (k :: t) = .ok ((t.drop kn).take v, (t.drop kn).drop v) by unfold textR; rw [HRES.out]; simp only; unfold takeR; rw [if_pos (by rw [HDL.out]; omega)])
                have HTL1 := Lib.hid (show ((t.drop kn).take v).length = v by rw [List.length_take, HDL.out]; omega)
                have HTL2 := Lib.hid (show ((t.drop kn).drop v).length = nl - v by rw [List.length_drop, HDL.out])
                have hLc := hL.out.2
                have hvl : v ≤ nl := Nat.le_of_not_lt hnv
                by_cases hcv : cL = v
                · obtain rfl : nl = v := by omega
                  subst hcv
                  have HFB := Lib.hid (show Cl 35 (fieldV 1 0 (.slice AL cL cL) zeroD) from fieldV_cl rfl (by simp [zeroD]))
                  have TFB := Lib.hid (bt_fldb (k := 1) (A := AL) (n := cL) (c := cL))
                  have TG := Lib.hid (bt_got (A := AL) (n := 0) (c := 0) HFB.out)
                  obtain ⟨f2, hf2⟩ : ∃ q, q = fieldV 1 0 (.slice AL cL cL) zeroD := ⟨_, rfl⟩
                  have HFE := Lib.hid hf2
                  rw [← hf2] at TFB HFB TG
                  obtain ⟨g2, hg2⟩ : ∃ q, q = gotV f2 0 (.slice AL 0 0) := ⟨_, rfl⟩
                  have HG2 := Lib.hid (show Cl 37 g2 by rw [hg2]; exact gotV_cl HFB.out rfl)
                  have HGE := Lib.hid hg2
                  rw [← hg2] at TG
                  clear hf2 hg2
                  try go_wp2_with fail
                  repeat' (first | (with_reducible refine wp_plan (id := 31) Grow [0,0,0,0,0,0,0,0,3] (.get 0 (.get 1 (.get 2 (.get 3 (.get 4 (.get 5 (.get 6 (.get 7 (.act 8 .done))))))))) (by kernel_rfl) (by kernel_rfl) Grow.refl Grow.trans ?_) | go_values | go_skip | go_guarded | go_step | go_upon | go_back)
                  intro w_ hd_
                  have hb_ := hd_.grow
                  have HB_ := Lib.hid (HB.out.grow' hb_)
                  clear HB
                  have HB := HB_
                  clear HB_
                  have HV_ := Lib.hid (HV.out.grow hb_)
                  clear HV
                  have HV := HV_
                  clear HV_
                  clear hb_ hd_
                  iterate 3 (first | (refine pl_calm rfl rfl (by first | exact wanted_none rfl | (go_simp; done) | rfl) (fun w_ => by first | (go_simp; rfl) | (go_simp; done) | rfl) (fun K hK => ?_); go_simp; refine hK _ _ ?_; clear hK K) | (refine pl_skip rfl (by first | (go_simp; done) | rfl) (fun K hK => ?_); go_simp; refine hK _ _ ?_; clear hK K) | (refine pl_skipa rfl (by first | (go_simp; done) | rfl) (fun K hK => ?_); go_simp; refine hK _ _ ?_; clear hK K) | (refine pl_loadb rfl rfl (by first | exact wanted_none rfl | (go_simp; done) | rfl) rfl row_got HV.out.blk (by first | rfl | (go_simp; done) | rfl) HV.out.len (fun K hK => ?_); go_simp; refine hK _ _ ?_; clear hK K) | (refine pl_loadbnow rfl rfl (by first | exact wanted_none rfl | (go_simp; done) | rfl) rfl row_got HV.out.blk (by first | rfl | (go_simp; done) | rfl) HV.out.len (fun K hK => ?_); go_simp; refine hK _ _ ?_; clear hK K))
                  refine pl_calm rfl rfl (by exact wanted_none rfl) (fun w_ => by exact exec_build rfl TFB.out w_) (fun K hK => ?_)
                  go_simp
                  refine hK _ _ ?_
                  clear hK K
                  iterate 3 (first | (refine pl_calm rfl rfl (by first | exact wanted_none rfl | (go_simp; done) | rfl) (fun w_ => by first | (go_simp; rfl) | (go_simp; done) | rfl) (fun K hK => ?_); go_simp; refine hK _ _ ?_; clear hK K) | (refine pl_skip rfl (by first | (go_simp; done) | rfl) (fun K hK => ?_); go_simp; refine hK _ _ ?_; clear hK K) | (refine pl_skipa rfl (by first | (go_simp; done) | rfl) (fun K hK => ?_); go_simp; refine hK _ _ ?_; clear hK K) | (refine pl_loadb rfl rfl (by first | exact wanted_none rfl | (go_simp; done) | rfl) rfl row_got HV.out.blk (by first | rfl | (go_simp; done) | rfl) HV.out.len (fun K hK => ?_); go_simp; refine hK _ _ ?_; clear hK K) | (refine pl_loadbnow rfl rfl (by first | exact wanted_none rfl | (go_simp; done) | rfl) rfl row_got HV.out.blk (by first | rfl | (go_simp; done) | rfl) HV.out.len (fun K hK => ?_); go_simp; refine hK _ _ ?_; clear hK K))
                  refine pl_calm rfl rfl (by exact wanted_none rfl) (fun w_ => by exact exec_build rfl TG.out w_) (fun K hK => ?_)
                  go_simp
                  refine hK _ _ ?_
                  clear hK K
                  refine pl_act rfl (by first | exact wanted_none rfl | (go_simp; done) | rfl) (fun K hK => ?_)
                  show wpList _ _ _ [⟨none, .store _ _ _, _, _, _, _⟩] _ _
                  go_wp2_with (first | (with_reducible refine wpl_storeb (o := ⟨none, .store _ _ _, _, _, _, _⟩) rfl rfl row_got HV.out.blk rfl rfl HV.out.len HG2.out.len HG2.out.one ?_))
                  intro w2_ hb2_ hg2_ hsz2_
                  have HB_ := Lib.hid (put_below HB.out HV_g.out hg2_)
                  have HX_ := Lib.hid (at_mk hb2_ HG2.out.len)
                  clear hb2_ hg2_ hsz2_ HB HV
                  have HB := HB_
                  have HV := HX_
                  clear HB_ HX_
                  try clear w_
                  rename World => w_
                  go_wp2_with fail
                  refine hK _ _ (fun h => by cases h) ?_
                  clear hK K
                  refine pl_done ?_
                  go_wp2_with fail
                  refine ret_cell rfl row_got HV.out.blk rfl HV.out.len rfl ?_
                  unfold NumK
                  rw [if_neg (by omega)]
                  refine .ok (v := (t.drop kn).take cL) (t := (t.drop kn).drop cL) (f := f2) (A := AL) (c := 0) HDR.out (by rw [HGE.out, HTL2.out, Nat.sub_self]) HFB.out ⟨AL, cL, by rw [HFE.out, HTL1.out], ?_, by rw [HTL1.out]; exact Nat.le_refl _⟩ (by rw [HTL2.out, Nat.sub_self, List.drop_of_length_le (by rw [HDL.out]; exact Nat.le_refl _)]; exact Sl.nil) (by rw [HTL2.out]; omega) HB.out
                  rw [HTL1.out, List.map_take]
                  exact (hL.out.1.first (k := cL) (Nat.le_refl _)).below (HB.out.mono HBD.out)
                · have hcf : (cL = v) = False := eq_false hcv
                  have hvc : v ≤ cL := by omega
                  have HFB := Lib.hid (show Cl 35 (fieldV 1 0 (.slice AL v cL) zeroD) from fieldV_cl rfl (by simp [zeroD]))
                  have TFB := Lib.hid (bt_fldb (k := 1) (A := AL) (n := v) (c := cL))
                  have TG := Lib.hid (bt_got (A := (Option.map (fun x => x.add v) AL)) (n := (nl - v)) (c := (cL - v)) HFB.out)
                  obtain ⟨f2, hf2⟩ : ∃ q, q = fieldV 1 0 (.slice AL v cL) zeroD := ⟨_, rfl⟩
                  have HFE := Lib.hid hf2
                  rw [← hf2] at TFB HFB TG
                  obtain ⟨g2, hg2⟩ : ∃ q, q = gotV f2 0 (.slice (Option.map (fun x => x.add v) AL) (nl - v) (cL - v)) := ⟨_, rfl⟩
                  have HG2 := Lib.hid (show Cl 37 g2 by rw [hg2]; exact gotV_cl HFB.out rfl)
                  have HGE := Lib.hid hg2
                  rw [← hg2] at TG
                  clear hf2 hg2
                  try go_wp2_with fail
                  repeat' (first | (with_reducible refine wp_plan (id := 31) Grow [0,0,0,0,0,0,0,0,3] (.get 0 (.get 1 (.get 2 (.get 3 (.get 4 (.get 5 (.get 6 (.get 7 (.act 8 .done))))))))) (by kernel_rfl) (by kernel_rfl) Grow.refl Grow.trans ?_) | go_values | go_skip | go_guarded | go_step | go_upon | go_back)
                  intro w_ hd_
                  have hb_ := hd_.grow
                  have HB_ := Lib.hid (HB.out.grow' hb_)
                  clear HB
                  have HB := HB_
                  clear HB_
                  have HV_ := Lib.hid (HV.out.grow hb_)
                  clear HV
                  have HV := HV_
                  clear HV_
                  clear hb_ hd_
                  iterate 3 (first | (refine pl_calm rfl rfl (by first | exact wanted_none rfl | (go_simp; done) | rfl) (fun w_ => by first | (go_simp; rfl) | (go_simp; done) | rfl) (fun K hK => ?_); go_simp; refine hK _ _ ?_; clear hK K) | (refine pl_skip rfl (by first | (go_simp; done) | rfl) (fun K hK => ?_); go_simp; refine hK _ _ ?_; clear hK K) | (refine pl_skipa rfl (by first | (go_simp; done) | rfl) (fun K hK => ?_); go_simp; refine hK _ _ ?_; clear hK K) | (refine pl_loadb rfl rfl (by first | exact wanted_none rfl | (go_simp; done) | rfl) rfl row_got HV.out.blk (by first | rfl | (go_simp; done) | rfl) HV.out.len (fun K hK => ?_); go_simp; refine hK _ _ ?_; clear hK K) | (refine pl_loadbnow rfl rfl (by first | exact wanted_none rfl | (go_simp; done) | rfl) rfl row_got HV.out.blk (by first | rfl | (go_simp; done) | rfl) HV.out.len (fun K hK => ?_); go_simp; refine hK _ _ ?_; clear hK K))
                  refine pl_calm rfl rfl (by exact wanted_none rfl) (fun w_ => by exact exec_build rfl TFB.out w_) (fun K hK => ?_)
                  go_simp
                  refine hK _ _ ?_
                  clear hK K
                  iterate 3 (first | (refine pl_calm rfl rfl (by first | exact wanted_none rfl | (go_simp; done) | rfl) (fun w_ => by first | (go_simp; rfl) | (go_simp; done) | rfl) (fun K hK => ?_); go_simp; refine hK _ _ ?_; clear hK K) | (refine pl_skip rfl (by first | (go_simp; done) | rfl) (fun K hK => ?_); go_simp; refine hK _ _ ?_; clear hK K) | (refine pl_skipa rfl (by first | (go_simp; done) | rfl) (fun K hK => ?_); go_simp; refine hK _ _ ?_; clear hK K) | (refine pl_loadb rfl rfl (by first | exact wanted_none rfl | (go_simp; done) | rfl) rfl row_got HV.out.blk (by first | rfl | (go_simp; done) | rfl) HV.out.len (fun K hK => ?_); go_simp; refine hK _ _ ?_; clear hK K) | (refine pl_loadbnow rfl rfl (by first | exact wanted_none rfl | (go_simp; done) | rfl) rfl row_got HV.out.blk (by first | rfl | (go_simp; done) | rfl) HV.out.len (fun K hK => ?_); go_simp; refine hK _ _ ?_; clear hK K))
                  refine pl_calm rfl rfl (by exact wanted_none rfl) (fun w_ => by exact exec_build rfl TG.out w_) (fun K hK => ?_)
                  go_simp
                  refine hK _ _ ?_
                  clear hK K
                  refine pl_act rfl (by first | exact wanted_none rfl | (go_simp; done) | rfl) (fun K hK => ?_)
                  show wpList _ _ _ [⟨none, .store _ _ _, _, _, _, _⟩] _ _
                  go_wp2_with (first | (with_reducible refine wpl_storeb (o := ⟨none, .store _ _ _, _, _, _, _⟩) rfl rfl row_got HV.out.blk rfl rfl HV.out.len HG2.out.len HG2.out.one ?_))
                  intro w2_ hb2_ hg2_ hsz2_
                  have HB_ := Lib.hid (put_below HB.out HV_g.out hg2_)
                  have HX_ := Lib.hid (at_mk hb2_ HG2.out.len)
                  clear hb2_ hg2_ hsz2_ HB HV
                  have HB := HB_
                  have HV := HX_
                  clear HB_ HX_
                  try clear w_
                  rename World => w_
                  go_wp2_with fail
                  refine hK _ _ (fun h => by cases h) ?_
                  clear hK K
                  refine pl_done ?_
                  go_wp2_with fail
                  refine ret_cell rfl row_got HV.out.blk rfl HV.out.len rfl ?_
                  unfold NumK
                  rw [if_neg (by omega)]
                  refine .ok (v := (t.drop kn).take v) (t := (t.drop kn).drop v) (f := f2) (A := Option.map (fun x => x.add v) AL) (c := cL - v) HDR.out (by rw [HGE.out, HTL2.out]) HFB.out ⟨AL, cL, by rw [HFE.out, HTL1.out], ?_, by rw [HTL1.out]; omega⟩ ?_ (by rw [HTL2.out]; omega) HB.out
                  · rw [HTL1.out, List.map_take]
                    exact (hL.out.1.first (k := v) hvl).below (HB.out.mono HBD.out)
                  · rw [HTL2.out, List.map_drop]
                    exact (cut_map hL.out.1 hvl).below (HB.out.mono HBD.out)
theorem rtake_num {Bd : Nat} {A : Option Addr} {n c : Nat} {l : List UInt8} {m : Nat} (w : World) (hs : Sl w Bd 1 A n (l.map B)) (hbd : Bd ≤ w.heap.size) (hc : n ≤ c) (hn : n ≤ 1000000) (hm : m ≤ 18446744073709551615) :
    Calls Try.prog 30 #[.slice A n c, .agg (fieldV 0 (m : Int) nilS zeroD).toArray] w fun e w' => GotR (numR m l) numF Bd w w' e := rtake_k (kd := 0) (.inl rfl) w hs hbd hc hn hm
theorem rtake_text {Bd : Nat} {A : Option Addr} {n c : Nat} {l : List UInt8} {m : Nat} (w : World) (hs : Sl w Bd 1 A n (l.map B)) (hbd : Bd ≤ w.heap.size) (hc : n ≤ c) (hn : n ≤ 1000000) (hm : m ≤ 18446744073709551615) :
    Calls Try.prog 30 #[.slice A n c, .agg (fieldV 1 (m : Int) nilS zeroD).toArray] w fun e w' => GotR (textR m l) (textF Bd) Bd w w' e := rtake_k (kd := 1) (.inr rfl) w hs hbd hc hn hm
end Go.Proofs.Ytphmefhnffoafaa

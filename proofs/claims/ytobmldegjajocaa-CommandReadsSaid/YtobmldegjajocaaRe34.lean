/- The document's Take of a number, and of a text. -/
import Derived.Test.YtobmldegjajocaaRe33
set_option linter.unusedSimpArgs false
set_option linter.unusedVariables false
set_option maxRecDepth 100000
set_option maxHeartbeats 16000000
namespace Go.Proofs.Ytobmldegjajocaa
open Go.RowKit Go.Shelf
def NumK (kd m : Nat) (l : List UInt8) (Bd : Nat) (w w' : World) (e : Ending) : Prop := if kd = 0 then GotR (numR m l) numF Bd w w' e else GotR (textR m l) (textF Bd) Bd w w' e
theorem NumK.err {kd m Bd : Nat} {l : List UInt8} {w w' : World} {e : Ending} {x : Nat} (hr : numR m l = .error x) (he : e = .returned (.agg (gotV noF (x : Int) nilS).toArray)) (hg : Grow w w') : NumK kd m l Bd w w' e := by
 unfold NumK;split
 ·exact .err hr he hg
 ·exact .err (by unfold textR; rw [hr]) he hg
theorem mul_u64 (v : Nat) (h : v * 256 ≤ 18446744073709551615) : IntKind.u64.wrap ((v : Int) * 256) = ((v * 256 : Nat) : Int) := by
 rw [IntKind.wrap_u64]; omega
theorem add_u64 (v c : Nat) (h : v * 256 + c ≤ 18446744073709551615) : IntKind.u64.wrap (((v * 256 : Nat) : Int) + (c : Int)) = ((v * 256 + c : Nat) : Int) := by
 rw [IntKind.wrap_u64]; omega
theorem rtake_k {kd Bd : Nat} {A : Option Addr} {n c : Nat} {l : List UInt8} {m : Nat} (hk : kd = 0 ∨ kd = 1) (w : World) (hs : Sl w Bd 1 A n (l.map B)) (hbd : Bd ≤ w.heap.size) (hc : n ≤ c) (hn : n ≤ 1000000) (hm : m ≤ 18446744073709551615) :
  Calls Try.prog 80 #[.slice A n c, .agg (fieldV (kd : Int) (m : Int) nilS zeroD).toArray] w fun e w' => NumK kd m l Bd w w' e := by
 have HS := kp hs;have HBD := kp hbd;clear hbd;have hln : l.length = n := by have := hs.len; simpa using this
 have HFC := kq (Cl 35 (fieldV (kd : Int) (m : Int) nilS zeroD)) (fieldV_cl rfl (by simp [zeroD]));have IF := kq ((fieldV (kd : Int) (m : Int) nilS zeroD)[0]? = some (.int .i64 (kd : Int))) rfl;have IF1 := kq ((fieldV (kd : Int) (m : Int) nilS zeroD)[1]? = some (.int .u64 (m : Int))) rfl;obtain ⟨fv, hfv⟩ := xe (fieldV (kd : Int) (m : Int) nilS zeroD);rw [← hfv] at HFC IF IF1 ⊢;have dk2 : ((kd : Int) == 2) = false := by rcases hk with rfl | rfl <;> rfl
 obtain ⟨ge2, h2⟩ := xe (gotV noF ((2 : Nat) : Int) nilS);obtain ⟨ge3, h3⟩ := xe (gotV noF ((3 : Nat) : Int) nilS);obtain ⟨ge5, h5⟩ := xe (gotV noF ((5 : Nat) : Int) nilS);have HC2 := kq (Cl 37 ge2) (by rw [h2]; exact gotV_cl noF_cl rfl);have HC3 := kq (Cl 37 ge3) (by rw [h3]; exact gotV_cl noF_cl rfl);have HC5 := kq (Cl 37 ge5) (by rw [h5]; exact gotV_cl noF_cl rfl);have TE2 := kq (Try.prog.built 142 [(1, .int .i64 2)] = some ge2.toArray) (by rw [h2]; exact bt_gote);have TE3 := kq (Try.prog.built 142 [(1, .int .i64 3)] = some ge3.toArray) (by rw [h3]; exact bt_gote);have TE5 := kq (Try.prog.built 142 [(1, .int .i64 5)] = some ge5.toArray) (by rw [h5]; exact bt_gote);have HE2 := kp h2; have HE3 := kp h3; have HE5 := kp h5;obtain ⟨w_, hw⟩ := xe w;have HB := kq (Below w.heap.size w w_) (by rw [hw]; exact Below.refl _ _)
 suffices H : Calls Try.prog 80 #[.slice A n c, .agg fv.toArray] w_ fun e w' => NumK kd m l Bd w w' e by rw [hw] at H; exact H
 clear hw hs hfv h2 h3 h5;cases l with
 | nil =>
  obtain rfl : 0 = n := hln
  go_enter Try.func80, Try.ntmps80
  go_wp2_with (with_reducible refine wbx 3 ?_);intro v_ b_ y_ s_;have HX_ := kp (at_mk b_ HFC.o.len);clear b_ s_;have HG_ := kp HB.o.size;replace HB := kp (HB.o.grow' y_);generalize hg_ : w_.heap.size = g3 at HX_ HG_ ⊢;clear hg_;have HF_g := HG_;clear HG_;have HF := HX_;clear y_ HX_;try clear w_
  rename World => w_;go_wp2_with (with_reducible refine wal 4 zero_got ?_);intro v_ b_ y_ s_;have HX_ := kp (at_mk b_ len_got);clear b_ s_;have HG_ := kp HB.o.size;replace HB := kp (HB.o.grow' y_);replace HF := kp (HF.o.grow y_);generalize hg_ : w_.heap.size = g4 at HX_ HG_ ⊢;clear hg_;have HV_g := HG_;clear HG_;have HV := HX_;clear y_ HX_;try clear w_
  rename World => w_;have c0 := HF.o.blk.at_ IF.o;go_wp2_with (with_reducible refine wst 38 ?_);refine stop_go ?_;refine wpl_build rfl rfl TE2.o ?_;go_wp2_with (with_reducible refine wsb row_got HV.o.blk HV.o.len HC2.o.len HC2.o.one ?_);intro v_ b_ g_ s_;replace HB := kp (put_below HB.o HV_g.o g_);replace HV := kp (at_mk b_ HC2.o.len);clear b_ g_ s_;try clear w_
  rename World => w_;clear c0;go_wp2_with fail;refine ret_cell rfl row_got HV.o.blk rfl HV.o.len rfl ?_;exact .err (x := 2) rfl (by rw [HE2.o]) HB.o
 | cons k t =>
  obtain ⟨kn, hkn⟩ := xe k.toNat;have hk8 : kn < 256 := by rw [hkn]; exact k.toNat_lt
  have htl0 : n = t.length + 1 := by rw [← hln]; rfl
  have HTL := kp htl0;have hn1 : 1 ≤ n := by omega
  have HRQ : Hid (numR m (k :: t) = if 8 < kn then .error 3 else if t.length < kn then .error 2 else if 0 < kn ∧ t[0]? = some 0 then .error 3 else if m < valB (t.take kn) then .error 5 else .ok (valB (t.take kn), t.drop kn)) := kp (by rw [hkn]; rfl);obtain ⟨b, off, hA, hb, hcell⟩ := HS.o.2 (by omega);subst hA;have HCELL := kp hcell;have C00 := kq (w.cell? ⟨b, off + 0, none⟩ = some (.int .u8 (kn : Int))) (hcell 0 (.int .u8 (kn : Int)) (by rw [hkn]; rfl))
  have C01 := kp (show 0 < t.length → w.cell? ⟨b, off + 1, none⟩ = some (.int .u8 ((t.getD 0 0).toNat : Int)) from fun hp => hcell 1 _ (by
   cases t with
   | nil => simp at hp
   | cons x t => rfl))
  have CJ := kq (∀ (j : Nat) (x : UInt8), t[j]? = some x → w.cell? ⟨b, off + (j + 1), none⟩ = some (.int .u8 (x.toNat : Int))) (fun j x hx => hcell (j + 1) _ (by simp [hx, B, b8]));clear hkn hcell hb hln htl0;have dn0 : ((n : Int) == 0) = false := by simp; omega
  go_enter Try.func80, Try.ntmps80
  go_wp2_with (with_reducible refine wbx 3 ?_);intro v_ b_ y_ s_;have HX_ := kp (at_mk b_ HFC.o.len);clear b_ s_;have HG_ := kp HB.o.size;replace HB := kp (HB.o.grow' y_);generalize hg_ : w_.heap.size = g3 at HX_ HG_ ⊢;clear hg_;have HF_g := HG_;clear HG_;have HF := HX_;clear y_ HX_;try clear w_
  rename World => w_;go_wp2_with (with_reducible refine wal 4 zero_got ?_);intro v_ b_ y_ s_;have HX_ := kp (at_mk b_ len_got);clear b_ s_;have HG_ := kp HB.o.size;replace HB := kp (HB.o.grow' y_);replace HF := kp (HF.o.grow y_);generalize hg_ : w_.heap.size = g4 at HX_ HG_ ⊢;clear hg_;have HV_g := HG_;clear HG_;have HV := HX_;clear y_ HX_;try clear w_
  rename World => w_;have c0 := HF.o.blk.at_ IF.o;have c1 := HF.o.blk.at_ IF1.o;have c2 := bcell HB.o C00.o;rw [Nat.add_zero] at c2;have qw : IntKind.i64.wrap (kn : Int) = (kn : Int) := IntWalk.i64_in _ (by omega);by_cases h8 : 8 < kn
  ·have d8 : decide ((8 : Int) < (kn : Int)) = true := by simp; omega
   go_wp2_with (with_reducible refine wst 45 ?_);refine stop_go ?_;refine wpl_build rfl rfl TE3.o ?_;go_wp2_with (with_reducible refine wsb row_got HV.o.blk HV.o.len HC3.o.len HC3.o.one ?_);intro v_ b_ g_ s_;replace HB := kp (put_below HB.o HV_g.o g_);replace HV := kp (at_mk b_ HC3.o.len);clear b_ g_ s_;try clear w_
   rename World => w_;go_wp2_with fail;refine ret_cell rfl row_got HV.o.blk rfl HV.o.len rfl ?_;exact .err (x := 3) (by rw [HRQ.o, if_pos h8]) (by rw [HE3.o]) HB.o
  have d8 : decide ((8 : Int) < (kn : Int)) = false := by simp; omega
  obtain ⟨k1, hk1⟩ := xe (kn + 1);have v1 : IntKind.i64.wrap (1 + (kn : Int)) = (k1 : Int) := by rw [IntWalk.i64_in _ (by omega)]; omega
  have v2 : RowKit.wrap64 (1 + (kn : Int)) = (k1 : Int) := by rw [wrap64_in _ (by omega)]; omega
  have HK1 := kp hk1;clear hk1;by_cases ht : n < k1
  ·have d9 : decide ((n : Int) < (k1 : Int)) = true := by simp; omega
   go_wp2_with (with_reducible refine wst 51 ?_);refine stop_go ?_;refine wpl_build rfl rfl TE2.o ?_;go_wp2_with (with_reducible refine wsb row_got HV.o.blk HV.o.len HC2.o.len HC2.o.one ?_);intro v_ b_ g_ s_;replace HB := kp (put_below HB.o HV_g.o g_);replace HV := kp (at_mk b_ HC2.o.len);clear b_ g_ s_;try clear w_
   rename World => w_;go_wp2_with fail;refine ret_cell rfl row_got HV.o.blk rfl HV.o.len rfl ?_;exact .err (x := 2) (by rw [HRQ.o, if_neg h8, if_pos (by have := HK1.o; have := HTL.o; omega)]) (by rw [HE2.o]) HB.o
  have d9 : decide ((n : Int) < (k1 : Int)) = false := by simp; omega
  have htk : kn ≤ t.length := by have := HK1.o; have := HTL.o; omega
  have HT2 := kq (¬ t.length < kn) (by omega);obtain ⟨bs, hbs⟩ := xe (t.take kn);have HBL := kq (bs.length = kn) (by rw [hbs, List.length_take]; omega);have HBS := kp hbs;rw [← hbs] at HRQ;have CB := kq (∀ (j : Nat) (x : UInt8), bs[j]? = some x → w.cell? ⟨b, off + (j + 1), none⟩ = some (.int .u8 (x.toNat : Int))) (fun j x hx => CJ.o j x (by rw [hbs, List.getElem?_take] at hx; split at hx; exact hx; cases hx));clear hbs;obtain ⟨xn, hxn⟩ := xe ((t.getD 0 0).toNat);have HXN := kp hxn;rw [← hxn] at C01;clear hxn;obtain ⟨p2, hp2⟩ : ∃ p, ((xn : Int) == 0) = p := ⟨_, rfl⟩
  have HP := kp (show 0 < kn → (p2 = true ↔ t[0]? = some 0) from fun hp => by
   rw [← hp2, beq_iff_eq, HXN.o];cases t with
   | nil => simp at htk; omega
   | cons x t =>
    simp only [List.getD_cons_zero, List.getElem?_cons_zero, Option.some.injEq];constructor
    ·intro h; exact UInt8.toNat_inj.1 (by show x.toNat = 0; omega)
    ·intro h; rw [h]; rfl)
  obtain ⟨zz, hzz⟩ := xe (decide (0 < kn ∧ t[0]? = some 0));have HZZ := kp hzz;clear hzz
  go_upto_region 17 with fail
  go_cut [59] from 60 (fun s59 wr => s59 = .bool zz ∧ wr = w_)
  case first =>
   by_cases hk0 : 0 < kn
   ·have d0 : decide ((0 : Int) < (kn : Int)) = true := by simp; omega
    have hn2 : 1 < n := by have := HTL.o; omega
    have c3 := bcell HB.o (C01.o (by omega))
    have hz : zz = p2 := by
     rw [HZZ.o, Bool.eq_iff_iff, decide_eq_true_iff];exact ⟨fun h => (HP.o hk0).2 h.2, fun h => ⟨hk0, (HP.o hk0).1 h⟩⟩
    have HZ := kp hz;clear hz;go_wp2_with fail;all_goals (go_meet; case rel => exact ⟨by rw [HZ.o], rfl⟩)
   ·have d0 : decide ((0 : Int) < (kn : Int)) = false := by simp; omega
    have HZ := kq (zz = false) (by rw [HZZ.o]; simp; omega);go_wp2_with fail
    go_meet
    case rel => exact ⟨by rw [HZ.o], rfl⟩
  case rest =>
   obtain ⟨rfl, rfl⟩ := hcut;cases zz with
   | true =>
    go_wp2_with (with_reducible refine wst 60 ?_);refine stop_go ?_;refine wpl_build rfl rfl TE3.o ?_;go_wp2_with (with_reducible refine wsb row_got HV.o.blk HV.o.len HC3.o.len HC3.o.one ?_);intro v_ b_ g_ s_;replace HB := kp (put_below HB.o HV_g.o g_);replace HV := kp (at_mk b_ HC3.o.len);clear b_ g_ s_;try clear w_
    rename World => w_;go_wp2_with fail;refine ret_cell rfl row_got HV.o.blk rfl HV.o.len rfl ?_;exact .err (x := 3) (by rw [HRQ.o, if_neg h8, if_neg HT2.o, if_pos (of_decide_eq_true HZZ.o.symm)]) (by rw [HE3.o]) HB.o
   | false =>
    have HNZ := kq (¬ (0 < kn ∧ t[0]? = some 0)) (of_decide_eq_false HZZ.o.symm);clear c2 qw dn0 d8 d9 v1 v2;rename World => w_;have HM := kp hm
    go_upto_block 2 with fail
    go_cut [8] from 60 (fun s8 wr => s8 = .int .u64 ((valB bs : Nat) : Int) ∧ wr = w_)
    case first =>
     go_wp2_with fail;go_loopw [8, 9] (fun vv iv wr => ∃ i : Nat, 1 ≤ i ∧ i ≤ kn + 1 ∧ iv = .int .i64 i ∧ vv = .int .u64 ((valB (bs.take (i - 1)) : Nat) : Int) ∧ wr = w_) (fun _ iv _ => kn + 1 - (intOf iv).toNat)
     case atStart => exact ⟨1, by omega, by omega, rfl, rfl, rfl⟩
     case round =>
      obtain ⟨i, hi1, hi2, rfl, rfl, rfl⟩ := hrel;by_cases hlt : i ≤ kn
      ·obtain ⟨x, hx⟩ : ∃ x, bs[i - 1]? = some x := ⟨bs[i - 1]'(by rw [HBL.o]; omega), List.getElem?_eq_getElem _⟩;obtain ⟨cn, hcn⟩ := xe x.toNat;have hc256 : cn < 256 := by rw [hcn]; exact x.toNat_lt
       have cx := bcell HB.o (CB.o (i - 1) x hx);rw [show off + (i - 1 + 1) = off + i by omega, ← hcn] at cx;obtain ⟨v, hv⟩ := xe (valB (bs.take (i - 1)))
       have hv64 : v * 256 + 255 ≤ 18446744073709551615 := by
        have := valB_lt 7 (bs.take (i - 1)) (by rw [List.length_take]; omega);rw [← hv] at this; omega
       have HST := kp (show ((v * 256 + cn : Nat) : Int) = ((valB (bs.take (i + 1 - 1)) : Nat) : Int) by
        rw [show i + 1 - 1 = (i - 1) + 1 by omega, valB_cons (c := 0) hx, ← hv, hcn])
       rw [← hv];have d0 : decide ((i : Int) ≤ (kn : Int)) = true := by simp; omega
       have hin : i < n := by have := HTL.o; omega
       have s1 := mul_u64 v (by omega);have s2 : IntKind.u64.wrap (cn : Int) = (cn : Int) := by rw [IntKind.wrap_u64]; omega
       have s3 := add_u64 v cn (by omega);have v3 : IntKind.i64.wrap ((i : Int) + 1) = (i : Int) + 1 := IntWalk.i64_in _ (by omega);have v4 : RowKit.wrap64 ((i : Int) + 1) = (i : Int) + 1 := wrap64_in _ (by omega);clear hv hx hcn;go_wp2_with fail;go_roundw
       all_goals clear s1 s2 s3 v3 v4 hv64 d0 cx
       case rel => exact ⟨i + 1, by omega, by omega, by go_num, congrArg (Value.int .u64) (by rw [← HST.o]; omega), by first | trivial | rfl⟩
       case measure => simp [intOf]; omega
      ·obtain rfl : i = kn + 1 := by omega
       have d0 : decide (((kn + 1 : Nat) : Int) ≤ (kn : Int)) = false := by simp; omega
       have HALL := kq (bs.take (kn + 1 - 1) = bs) (List.take_of_length_le (by rw [HBL.o]; omega));rw [HALL.o];obtain ⟨q, hq⟩ := xe (((kn + 1 : Nat) : Int));rw [← hq] at d0 ⊢;clear hq;go_wp2_with fail
       go_meet
       case rel => exact ⟨rfl, rfl⟩
    case rest =>
     obtain ⟨rfl, rfl⟩ := hcut;rename World => w_;obtain ⟨v, hv⟩ := xe (valB bs);have HVB := kp hv;rw [← hv] at HRQ ⊢;have hv64 : v ≤ 18446744073709551615 := by rw [hv]; exact valB_64 (by rw [HBL.o]; omega)
     clear hv;by_cases hvm : m < v
     ·have d0 : decide ((m : Int) < (v : Int)) = true := by simp; omega
      go_wp2_with (with_reducible refine wst 78 ?_);refine stop_go ?_;refine wpl_build rfl rfl TE5.o ?_;go_wp2_with (with_reducible refine wsb row_got HV.o.blk HV.o.len HC5.o.len HC5.o.one ?_);intro v_ b_ g_ s_;replace HB := kp (put_below HB.o HV_g.o g_);replace HV := kp (at_mk b_ HC5.o.len);clear b_ g_ s_;try clear w_
      rename World => w_;go_wp2_with fail;refine ret_cell rfl row_got HV.o.blk rfl HV.o.len rfl ?_;exact .err (x := 5) (by rw [HRQ.o, if_neg h8, if_neg HT2.o, if_neg HNZ.o, if_pos hvm]) (by rw [HE5.o]) HB.o
     have d0 : decide ((m : Int) < (v : Int)) = false := by simp; omega
     have v1 : IntKind.i64.wrap (1 + (kn : Int)) = (k1 : Int) := by have := HK1.o; rw [IntWalk.i64_in _ (by omega)]; omega
     have v2 : RowKit.wrap64 (1 + (kn : Int)) = (k1 : Int) := by have := HK1.o; rw [wrap64_in _ (by omega)]; omega
     have HRES := kq (numR m (k :: t) = .ok (v, t.drop kn)) (by rw [HRQ.o, if_neg h8, if_neg HT2.o, if_neg HNZ.o, if_neg hvm]);have hle : k1 ≤ n := by omega
     obtain ⟨nl, hnl⟩ := xe ((t.drop kn).length);have HNL := kq (n - k1 = nl) (by have := HK1.o; have := HTL.o; rw [hnl, List.length_drop]; omega);have HDL := kp hnl.symm;clear hnl
     go_upto_region 26 with fail
     go_cut [10] from 60 (fun s10 wr => (∃ A' c', s10 = .slice A' nl c' ∧ Hid (Sl w Bd 1 A' nl ((t.drop kn).map B) ∧ nl ≤ c')) ∧ wr = w_)
     case first =>
      by_cases hck : c = k1
      ·obtain rfl : n = k1 := by omega
       subst hck;go_wp2_with fail
       go_meet
       case rel =>
        rw [← HNL.o];refine ⟨⟨some ⟨b, off, none⟩, 0, by rw [Nat.sub_self], kp ⟨⟨by rw [List.length_map, HDL.o, ← HNL.o]; omega, fun h => absurd h (by omega)⟩, by omega⟩⟩, rfl⟩
      ·have hcf : (c = k1) = False := eq_false hck;go_wp2_with fail
       go_meet
       case rel =>
        rw [← HNL.o];refine ⟨⟨some ⟨b, off + k1, none⟩, c - k1, rfl, kp ⟨?_, by omega⟩⟩, rfl⟩;have h9 := HS.o.from_ hle;have h10 : (List.map B (k :: t)).drop k1 = (t.drop kn).map B := by rw [HK1.o, List.map_cons, List.drop_succ_cons, List.map_drop]
        rw [h10] at h9;exact h9
     case rest =>
      obtain ⟨⟨AL, cL, rfl, hL⟩, rfl⟩ := hcut;rename World => w_;clear v1 v2;rcases hk with rfl | rfl
      ·have TF := kp (bt_fldn (n := (v : Int)));have HF2 := kq (Cl 35 (fieldV 0 (v : Int) nilS zeroD)) (fieldV_cl rfl (by simp [zeroD]));have TG := kp (bt_got (A := AL) (n := nl) (c := cL) HF2.o);obtain ⟨f2, hf2⟩ := xe (fieldV 0 (v : Int) nilS zeroD);have HFE := kp hf2;rw [← hf2] at TF HF2 TG;obtain ⟨g2, hg2⟩ := xe (gotV f2 0 (.slice AL nl cL));have HG2 := kq (Cl 37 g2) (by rw [hg2]; exact gotV_cl HF2.o rfl);have HGE := kp hg2;rw [← hg2] at TG;clear hf2 hg2;go_wp2_with (with_reducible refine wst 87 ?_);refine stop_go ?_;refine wpl_build rfl rfl TF.o ?_;go_wp2_with (with_reducible refine wst 89 ?_);refine stop_go ?_;refine wpl_build rfl rfl TG.o ?_;go_wp2_with (with_reducible refine wsb row_got HV.o.blk HV.o.len HG2.o.len HG2.o.one ?_);intro v_ b_ g_ s_;replace HB := kp (put_below HB.o HV_g.o g_);replace HV := kp (at_mk b_ HG2.o.len);clear b_ g_ s_;try clear w_
       rename World => w_;go_wp2_with fail;refine ret_cell rfl row_got HV.o.blk rfl HV.o.len rfl ?_;unfold NumK;rw [if_pos rfl];exact .ok (v := v) (t := t.drop kn) (f := f2) (A := AL) (c := cL) HRES.o (by rw [HGE.o, HDL.o]) HF2.o HFE.o (by rw [HDL.o]; exact hL.o.1.below (HB.o.mono HBD.o)) (by rw [HDL.o]; exact hL.o.2) HB.o
      ·have s1 : IntKind.u64.wrap (nl : Int) = (nl : Int) := IntWalk.u64_in _ (by have := HNL.o; omega);by_cases hnv : nl < v
       ·have d3 : decide ((nl : Int) < (v : Int)) = true := by simp; omega
        go_wp2_with (with_reducible refine wst 95 ?_);refine stop_go ?_;refine wpl_build rfl rfl TE2.o ?_;go_wp2_with (with_reducible refine wsb row_got HV.o.blk HV.o.len HC2.o.len HC2.o.one ?_);intro v_ b_ g_ s_;replace HB := kp (put_below HB.o HV_g.o g_);replace HV := kp (at_mk b_ HC2.o.len);clear b_ g_ s_;try clear w_
        rename World => w_;go_wp2_with fail;refine ret_cell rfl row_got HV.o.blk rfl HV.o.len rfl ?_;unfold NumK;rw [if_neg (by omega)];exact .err (x := 2) (by unfold textR; rw [HRES.o]; simp only; unfold takeR; rw [if_neg (by rw [HDL.o]; omega)]) (by rw [HE2.o]) HB.o
       ·have d3 : decide ((nl : Int) < (v : Int)) = false := by simp; omega
        have HDR := kq (textR m (k :: t) = .ok ((t.drop kn).take v, (t.drop kn).drop v)) (by unfold textR; rw [HRES.o]; simp only; unfold takeR; rw [if_pos (by rw [HDL.o]; omega)]);have HTL1 := kq (((t.drop kn).take v).length = v) (by rw [List.length_take, HDL.o]; omega);have HTL2 := kq (((t.drop kn).drop v).length = nl - v) (by rw [List.length_drop, HDL.o]);have hLc := hL.o.2;have hvl : v ≤ nl := Nat.le_of_not_lt hnv;by_cases hcv : cL = v
        ·obtain rfl : nl = v := by omega
         subst hcv;have HFB := kq (Cl 35 (fieldV 1 0 (.slice AL cL cL) zeroD)) (fieldV_cl rfl (by simp [zeroD]));have TFB := kp (bt_fldb (k := 1) (A := AL) (n := cL) (c := cL));have TG := kp (bt_got (A := AL) (n := 0) (c := 0) HFB.o);obtain ⟨f2, hf2⟩ := xe (fieldV 1 0 (.slice AL cL cL) zeroD);have HFE := kp hf2;rw [← hf2] at TFB HFB TG;obtain ⟨g2, hg2⟩ := xe (gotV f2 0 (.slice AL 0 0));have HG2 := kq (Cl 37 g2) (by rw [hg2]; exact gotV_cl HFB.o rfl);have HGE := kp hg2;rw [← hg2] at TG;clear hf2 hg2;try go_wp2_with fail
         repeat' (first | (with_reducible refine wpp (id := 31) Grow [0,0,0,0,0,0,0,0,3] (.get 0 (.get 1 (.get 2 (.get 3 (.get 4 (.get 5 (.get 6 (.get 7 (.act 8 .done))))))))) Grow.refl Grow.trans ?_) | go_values | go_skip | go_guarded | go_step | go_upon | go_back)
         intro w_ hd_;have y_ := hd_.grow;replace HB := kp (HB.o.grow' y_);replace HV := kp (HV.o.grow y_);clear y_ hd_;iterate 3 (first | (refine plc (fun K hK => ?_); go_simp; refine hK _ _ ?_; clear hK K) | (refine pls (fun K hK => ?_); go_simp; refine hK _ _ ?_; clear hK K) | (refine psa (fun K hK => ?_); go_simp; refine hK _ _ ?_; clear hK K) | (refine pl_loadb rfl rfl (by first | exact wanted_none rfl | (go_simp; done) | rfl) rfl row_got HV.o.blk (by first | rfl | (go_simp; done) | rfl) HV.o.len (fun K hK => ?_); go_simp; refine hK _ _ ?_; clear hK K) | (refine pl_loadbnow rfl rfl (by first | exact wanted_none rfl | (go_simp; done) | rfl) rfl row_got HV.o.blk (by first | rfl | (go_simp; done) | rfl) HV.o.len (fun K hK => ?_); go_simp; refine hK _ _ ?_; clear hK K))
         refine pl_calm rfl rfl (by exact wanted_none rfl) (fun w_ => by exact exec_build rfl TFB.o w_) (fun K hK => ?_);go_simp;refine hK _ _ ?_;clear hK K;iterate 3 (first | (refine plc (fun K hK => ?_); go_simp; refine hK _ _ ?_; clear hK K) | (refine pls (fun K hK => ?_); go_simp; refine hK _ _ ?_; clear hK K) | (refine psa (fun K hK => ?_); go_simp; refine hK _ _ ?_; clear hK K) | (refine pl_loadb rfl rfl (by first | exact wanted_none rfl | (go_simp; done) | rfl) rfl row_got HV.o.blk (by first | rfl | (go_simp; done) | rfl) HV.o.len (fun K hK => ?_); go_simp; refine hK _ _ ?_; clear hK K) | (refine pl_loadbnow rfl rfl (by first | exact wanted_none rfl | (go_simp; done) | rfl) rfl row_got HV.o.blk (by first | rfl | (go_simp; done) | rfl) HV.o.len (fun K hK => ?_); go_simp; refine hK _ _ ?_; clear hK K))
         refine pl_calm rfl rfl (by exact wanted_none rfl) (fun w_ => by exact exec_build rfl TG.o w_) (fun K hK => ?_);go_simp;refine hK _ _ ?_;clear hK K;refine pl_act rfl (by first | exact wanted_none rfl | (go_simp; done) | rfl) (fun K hK => ?_);show wpList _ _ _ [⟨none, .store _ _ _, _, _, _, _⟩] _ _
         go_wp2_with (with_reducible refine wsb row_got HV.o.blk HV.o.len HG2.o.len HG2.o.one ?_);intro v_ b_ g_ s_;replace HB := kp (put_below HB.o HV_g.o g_);replace HV := kp (at_mk b_ HG2.o.len);clear b_ g_ s_;try clear w_
         rename World => w_;go_wp2_with fail;refine hK _ _ (fun h => by cases h) ?_;clear hK K;refine pl_done ?_;go_wp2_with fail;refine ret_cell rfl row_got HV.o.blk rfl HV.o.len rfl ?_;unfold NumK;rw [if_neg (by omega)];refine .ok (v := (t.drop kn).take cL) (t := (t.drop kn).drop cL) (f := f2) (A := AL) (c := 0) HDR.o (by rw [HGE.o, HTL2.o, Nat.sub_self]) HFB.o ⟨AL, cL, by rw [HFE.o, HTL1.o], ?_, by rw [HTL1.o]; exact Nat.le_refl _⟩ (by rw [HTL2.o, Nat.sub_self, List.drop_of_length_le (by rw [HDL.o]; exact Nat.le_refl _)]; exact Sl.nil) (by rw [HTL2.o]; omega) HB.o;rw [HTL1.o, List.map_take];exact (hL.o.1.first (k := cL) (Nat.le_refl _)).below (HB.o.mono HBD.o)
        ·have hcf : (cL = v) = False := eq_false hcv;have hvc : v ≤ cL := by omega
         have HFB := kq (Cl 35 (fieldV 1 0 (.slice AL v cL) zeroD)) (fieldV_cl rfl (by simp [zeroD]));have TFB := kp (bt_fldb (k := 1) (A := AL) (n := v) (c := cL));have TG := kp (bt_got (A := (Option.map (fun x => x.add v) AL)) (n := (nl - v)) (c := (cL - v)) HFB.o);obtain ⟨f2, hf2⟩ := xe (fieldV 1 0 (.slice AL v cL) zeroD);have HFE := kp hf2;rw [← hf2] at TFB HFB TG;obtain ⟨g2, hg2⟩ := xe (gotV f2 0 (.slice (Option.map (fun x => x.add v) AL) (nl - v) (cL - v)));have HG2 := kq (Cl 37 g2) (by rw [hg2]; exact gotV_cl HFB.o rfl);have HGE := kp hg2;rw [← hg2] at TG;clear hf2 hg2;try go_wp2_with fail
         repeat' (first | (with_reducible refine wpp (id := 31) Grow [0,0,0,0,0,0,0,0,3] (.get 0 (.get 1 (.get 2 (.get 3 (.get 4 (.get 5 (.get 6 (.get 7 (.act 8 .done))))))))) Grow.refl Grow.trans ?_) | go_values | go_skip | go_guarded | go_step | go_upon | go_back)
         intro w_ hd_;have y_ := hd_.grow;replace HB := kp (HB.o.grow' y_);replace HV := kp (HV.o.grow y_);clear y_ hd_;iterate 3 (first | (refine plc (fun K hK => ?_); go_simp; refine hK _ _ ?_; clear hK K) | (refine pls (fun K hK => ?_); go_simp; refine hK _ _ ?_; clear hK K) | (refine psa (fun K hK => ?_); go_simp; refine hK _ _ ?_; clear hK K) | (refine pl_loadb rfl rfl (by first | exact wanted_none rfl | (go_simp; done) | rfl) rfl row_got HV.o.blk (by first | rfl | (go_simp; done) | rfl) HV.o.len (fun K hK => ?_); go_simp; refine hK _ _ ?_; clear hK K) | (refine pl_loadbnow rfl rfl (by first | exact wanted_none rfl | (go_simp; done) | rfl) rfl row_got HV.o.blk (by first | rfl | (go_simp; done) | rfl) HV.o.len (fun K hK => ?_); go_simp; refine hK _ _ ?_; clear hK K))
         refine pl_calm rfl rfl (by exact wanted_none rfl) (fun w_ => by exact exec_build rfl TFB.o w_) (fun K hK => ?_);go_simp;refine hK _ _ ?_;clear hK K;iterate 3 (first | (refine plc (fun K hK => ?_); go_simp; refine hK _ _ ?_; clear hK K) | (refine pls (fun K hK => ?_); go_simp; refine hK _ _ ?_; clear hK K) | (refine psa (fun K hK => ?_); go_simp; refine hK _ _ ?_; clear hK K) | (refine pl_loadb rfl rfl (by first | exact wanted_none rfl | (go_simp; done) | rfl) rfl row_got HV.o.blk (by first | rfl | (go_simp; done) | rfl) HV.o.len (fun K hK => ?_); go_simp; refine hK _ _ ?_; clear hK K) | (refine pl_loadbnow rfl rfl (by first | exact wanted_none rfl | (go_simp; done) | rfl) rfl row_got HV.o.blk (by first | rfl | (go_simp; done) | rfl) HV.o.len (fun K hK => ?_); go_simp; refine hK _ _ ?_; clear hK K))
         refine pl_calm rfl rfl (by exact wanted_none rfl) (fun w_ => by exact exec_build rfl TG.o w_) (fun K hK => ?_);go_simp;refine hK _ _ ?_;clear hK K;refine pl_act rfl (by first | exact wanted_none rfl | (go_simp; done) | rfl) (fun K hK => ?_);show wpList _ _ _ [⟨none, .store _ _ _, _, _, _, _⟩] _ _
         go_wp2_with (with_reducible refine wsb row_got HV.o.blk HV.o.len HG2.o.len HG2.o.one ?_);intro v_ b_ g_ s_;replace HB := kp (put_below HB.o HV_g.o g_);replace HV := kp (at_mk b_ HG2.o.len);clear b_ g_ s_;try clear w_
         rename World => w_;go_wp2_with fail;refine hK _ _ (fun h => by cases h) ?_;clear hK K;refine pl_done ?_;go_wp2_with fail;refine ret_cell rfl row_got HV.o.blk rfl HV.o.len rfl ?_;unfold NumK;rw [if_neg (by omega)];refine .ok (v := (t.drop kn).take v) (t := (t.drop kn).drop v) (f := f2) (A := Option.map (fun x => x.add v) AL) (c := cL - v) HDR.o (by rw [HGE.o, HTL2.o]) HFB.o ⟨AL, cL, by rw [HFE.o, HTL1.o], ?_, by rw [HTL1.o]; omega⟩ ?_ (by rw [HTL2.o]; omega) HB.o
         ·rw [HTL1.o, List.map_take];exact (hL.o.1.first (k := v) hvl).below (HB.o.mono HBD.o)
         ·rw [HTL2.o, List.map_drop];exact (cut_map hL.o.1 hvl).below (HB.o.mono HBD.o)
theorem rtake_num {Bd : Nat} {A : Option Addr} {n c : Nat} {l : List UInt8} {m : Nat} (w : World) (hs : Sl w Bd 1 A n (l.map B)) (hbd : Bd ≤ w.heap.size) (hc : n ≤ c) (hn : n ≤ 1000000) (hm : m ≤ 18446744073709551615) :
  Calls Try.prog 80 #[.slice A n c, .agg (fieldV 0 (m : Int) nilS zeroD).toArray] w fun e w' => GotR (numR m l) numF Bd w w' e := rtake_k (kd := 0) (.inl rfl) w hs hbd hc hn hm
theorem rtake_text {Bd : Nat} {A : Option Addr} {n c : Nat} {l : List UInt8} {m : Nat} (w : World) (hs : Sl w Bd 1 A n (l.map B)) (hbd : Bd ≤ w.heap.size) (hc : n ≤ c) (hn : n ≤ 1000000) (hm : m ≤ 18446744073709551615) :
  Calls Try.prog 80 #[.slice A n c, .agg (fieldV 1 (m : Int) nilS zeroD).toArray] w fun e w' => GotR (textR m l) (textF Bd) Bd w w' e := rtake_k (kd := 1) (.inr rfl) w hs hbd hc hn hm
end Go.Proofs.Ytobmldegjajocaa

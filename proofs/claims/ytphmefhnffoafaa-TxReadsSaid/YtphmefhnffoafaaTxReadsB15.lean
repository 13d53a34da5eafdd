/- The contract of tx.Put. Printed by mkput.py. -/
import Derived.Test.YtphmefhnffoafaaTxReadsB14
import Derived.Test.YtphmefhnffoafaaTxReadsB9
import Derived.Test.YtphmefhnffoafaaTxReadsB13
import Derived.Test.YtphmefhnffoafaaTxReadsB5
import Derived.Test.YtphmefhnffoafaaTxReadsB6
set_option linter.unusedSimpArgs false
/- The contract of tx.Put. Printed by mkput.py. -/
namespace Go.Proofs.Ytphmefhnffoafaa
open Go.RowKit Go.Shelf
set_option linter.unusedVariables false
theorem len_pen0 : ([Value.slice none 0 0]).length = 1 := rfl
set_option maxRecDepth 100000 in
set_option maxHeartbeats 8000000 in
theorem tput_any {A : Option Addr} {n c : Nat} {A2 : Option Addr} {n2 c2 : Nat} {fee ex : Int} {l : List (Value × Inp)} {os : List Outp} (w : World) (hi : InsAt w A n c l) (ho : OutsAt w A2 n2 c2 os) (hn : n ≤ 100000) (hn2 : n2 ≤ 100000) (hf : U64 fee) (hex : I64 ex) :
    Calls Try.prog 23 #[.agg (txV A n c A2 n2 c2 fee ex).toArray] w fun e w' => ∃ A' c', e = .returned (.tuple #[.slice A' (tformB ⟨l.map Prod.snd, os, fee, ex⟩).length c', .int .i64 (checkT ⟨l.map Prod.snd, os, fee, ex⟩)]) ∧ Sl w' w'.heap.size 1 A' (tformB ⟨l.map Prod.snd, os, fee, ex⟩).length ((tformB ⟨l.map Prod.snd, os, fee, ex⟩).map B) ∧ (tformB ⟨l.map Prod.snd, os, fee, ex⟩).length ≤ c' ∧ Grow w w' := by
  have HI := Lib.hid hi; have HO := Lib.hid ho
  have HTC := Lib.hid (txV_cl (A := A) (n := n) (c := c) (A2 := A2) (n2 := n2) (c2 := c2) (fee := fee) (ex := ex))
  have HT0 := Lib.hid (show (txV A n c A2 n2 c2 fee ex)[0]? = some (.slice A n c) from rfl)
  have HT1 := Lib.hid (show (txV A n c A2 n2 c2 fee ex)[1]? = some (.slice A2 n2 c2) from rfl)
  have HT2 := Lib.hid (show (txV A n c A2 n2 c2 fee ex)[2]? = some (.int .u64 fee) from rfl)
  have HT3 := Lib.hid (show (txV A n c A2 n2 c2 fee ex)[3]? = some (.int .i64 ex) from rfl)
  have HCK := Lib.hid (fun w hi ho => tcheck_any (A := A) (n := n) (c := c) (A2 := A2) (n2 := n2) (c2 := c2) (fee := fee) (ex := ex) (l := l) (os := os) w hi ho hn hn2 hf hex)
  have HF := Lib.hid hf; have HEX := Lib.hid hex
  obtain ⟨t, ht⟩ : ∃ t, t = Txn.mk (l.map Prod.snd) os fee ex := ⟨_, rfl⟩
  rw [← ht] at HCK ⊢
  have HTE := Lib.hid ht
  obtain ⟨ck, hck⟩ : ∃ q, q = checkT t := ⟨_, rfl⟩
  have HCE := Lib.hid hck
  rw [← hck] at HCK ⊢
  obtain ⟨tf, htf⟩ : ∃ q, q = tformB t := ⟨_, rfl⟩
  rw [← htf]
  have HFN := Lib.hid (show ck ≠ 0 → tf = [] from fun h => by rw [htf]; unfold tformB; rw [if_neg (by rw [← hck]; exact h)])
  have HFY := Lib.hid (show ck = 0 → tf = putTB t from fun h => by rw [htf]; unfold tformB; rw [if_pos (by rw [← hck]; exact h)])
  have HSH := Lib.hid (show ck = 0 → (1 ≤ n ∧ n ≤ 16 ∧ 1 ≤ n2 ∧ n2 ≤ 16 ∧ 0 ≤ ex ∧ ex ≤ 1099511627776) ∧ ∀ p ∈ l, p.2.secret.length ≤ 64 ∧ 0 ≤ p.2.index ∧ p.2.index ≤ 15 from fun h => by
    obtain ⟨h1, h2⟩ := short_of (t := t) (by rw [← hck]; exact h)
    unfold shortT at h1
    rw [ht] at h1 h2
    simp only [Bool.and_eq_true, inB_iff, List.length_map] at h1
    have a := hi.2.2.1; have b := ho.2.2.1
    exact ⟨by omega, fun p hp => h2 _ (List.mem_map_of_mem hp)⟩)
  obtain ⟨tv, htv⟩ : ∃ q, q = txV A n c A2 n2 c2 fee ex := ⟨_, rfl⟩
  rw [← htv] at HTC HT0 HT1 HT2 HT3 HCK ⊢
  obtain ⟨w_, hw⟩ : ∃ x, x = w := ⟨_, rfl⟩
  have HB := Lib.hid (show Below w.heap.size w w_ by rw [hw]; exact Below.refl _ _)
  suffices H : Calls Try.prog 23 #[.agg tv.toArray] w_ fun e w' => ∃ A' c', e = .returned (.tuple #[.slice A' tf.length c', .int .i64 ck]) ∧ Sl w' w'.heap.size 1 A' tf.length (tf.map B) ∧ tf.length ≤ c' ∧ Grow w w' by rw [hw] at H; exact H
  clear hw hi ho ht hck htf htv hf hex
  go_enter Try.func23, Try.ntmps23
  go_wp2_with (first | (with_reducible refine wpl_box (o := ⟨some 1, _, _, _, _, _⟩) rfl rfl rfl ?_))
  intro w2_ hb2_ hb_ hsz2_
  have HX_ := Lib.hid (at_mk hb2_ HTC.out.len)
  clear hb2_ hsz2_
  have HG_ := Lib.hid HB.out.size
  have HB_ := Lib.hid (HB.out.grow' hb_)
  clear HB
  have HB := HB_
  clear HB_
  generalize hg_ : w_.heap.size = g1 at HX_ HG_ ⊢
  clear hg_
  have HX_g := HG_
  clear HG_
  have HX := HX_
  clear hb_ HX_
  try clear w_
  rename World => w_
  go_wp2_with (first | (with_reducible refine wpl_loadb (o := ⟨some 10, _, _, _, _, _⟩) rfl rfl row_tx HX.out.blk rfl HX.out.len ?_))
  refine (HCK.out _ (HI.out.grow HB.out) (HO.out.grow HB.out)).mono ?_
  rintro e w_ ⟨rfl, hb_⟩
  have HB_ := Lib.hid (HB.out.grow' hb_)
  clear HB
  have HB := HB_
  clear HB_
  have HX_ := Lib.hid (HX.out.grow hb_)
  clear HX
  have HX := HX_
  clear HX_
  clear hb_
  by_cases h0 : ck = 0
  · obtain ⟨hsh, hel⟩ := HSH.out h0
    have HEL := Lib.hid hel
    have HSHT := Lib.hid hsh
    have hn16 : n ≤ 16 := hsh.2.1
    have hm16 : n2 ≤ 16 := hsh.2.2.2.1
    obtain ⟨fn, hfn⟩ : ∃ q : Nat, fee = (q : Int) := ⟨fee.toNat, (Int.toNat_of_nonneg HF.out.1).symm⟩
    obtain ⟨en, hen⟩ : ∃ q : Nat, ex = (q : Int) := ⟨ex.toNat, (Int.toNat_of_nonneg hsh.2.2.2.2.1).symm⟩
    have HFU := Lib.hid (show fn ≤ 18446744073709551615 by have := HF.out.2; rw [hfn] at this; omega)
    have HEU := Lib.hid (show en ≤ 1099511627776 by have := hsh.2.2.2.2.2; rw [hen] at this; omega)
    have HPT := Lib.hid (show tf = numB n ++ (l.map Prod.snd).flatMap putI ++ numB n2 ++ os.flatMap putO ++ numB fn ++ numB en by
      rw [HFY.out h0, HTE.out]; unfold putTB; simp only [hfn, hen, Int.toNat_natCast, List.length_map]; rw [HI.out.2.2.1, HO.out.2.2.1])
    have HPI := Lib.hid (show ∀ x ∈ l.map Prod.snd, (putI x).length ≤ 130 from fun x hx => by
      obtain ⟨p, hp, rfl⟩ := List.mem_map.1 hx
      exact putI_len (HI.out.2.1 p hp).2 (hel p hp).1 (hel p hp).2)
    have HPO := Lib.hid (show ∀ x ∈ os, (putO x).length ≤ 50 from fun x hx => putO_len (HO.out.2.1 x hx))
    rw [hfn] at HT2
    rw [hen] at HT3
    clear hsh hel hfn hen
    subst h0
    go_wp2_with (first | (with_reducible refine wpl_alloc (o := ⟨some 5, _, _, _, _, _⟩) rfl rfl zero_pen ?_))
    intro w4 hb4 hbw4 hsz4
    obtain ⟨gp, hgp⟩ : ∃ q, q = w_.heap.size := ⟨_, rfl⟩
    have HG1 := Lib.hid (show g1 < gp ∧ w.heap.size ≤ gp by have h1 := HX.out.lt; have h2 := HB.out.size; omega)
    have HX4 := Lib.hid (HX.out.grow hbw4)
    have HB4 := Lib.hid (HB.out.grow' hbw4)
    rw [← hgp] at hb4 hsz4 ⊢
    have HP := Lib.hid (show PenAt w4 (K0 gp) gp [] from PenAt.new hb4 (fun k hk => by unfold K0 at hk; omega))
    have HKB := Lib.hid (show KB gp w4 w4 from ⟨Below.refl _ _, by omega⟩)
    have HXB := Lib.hid (show ∀ w', KB gp w4 w' → At w' g1 28 4 tv from fun w' h => ⟨HX4.out.blk.below h.1 HG1.out.1, HX4.out.len⟩)
    have HBB := Lib.hid (show ∀ w', KB gp w4 w' → Below w.heap.size w w' from fun w' h => HB4.out.trans (h.1.mono HG1.out.2))
    have HKP := Lib.hid (show ∀ (w' : World) (xs : List UInt8), KB gp w4 w' → PenAt w' (K0 gp) gp xs → PenAt w' (Kq gp g1) gp xs from fun w' xs h hp => hp.plus (HXB.out _ h).blk (by decide) (by have := HG1.out.1; omega))
    clear hb4 hbw4 hsz4 hgp HX HB HX4
    have qn := conv_u64' (n := n) (by omega)
    have c0 := (HXB.out _ HKB.out).blk.at_ HT0.out
    go_wp2_with fail
    refine (num_any gp n (Kq gp g1) [] _ (HKP.out _ _ HKB.out HP.out) (by simp) (by omega)).mono ?_
    rintro e w2_ ⟨rfl, hp_, hk_⟩
    have HP_ := Lib.hid hp_.minus
    have HKB_ := Lib.hid (HKB.out.kept hk_)
    clear hp_ hk_ HP HKB
    have HP := HP_; have HKB := HKB_
    clear HP_ HKB_
    try clear w_
    rename World => w_
    have HP_ := Lib.hid (show PenAt w_ (K0 gp) gp (numB n) from HP.out)
    clear HP c0 qn
    have HP := HP_
    clear HP_
    have ln := numB_le (n := n) (by omega); have lm := numB_le (n := n2) (by omega)
    have c0 := (HXB.out _ HKB.out).blk.at_ HT0.out
    obtain ⟨pre, hpre⟩ : ∃ q, q = numB n := ⟨_, rfl⟩
    have HPR := Lib.hid hpre
    have hprl : pre.length ≤ 9 := by rw [hpre]; exact ln
    rw [← hpre] at HP HPT
    clear hpre ln
    obtain ⟨ins, hins⟩ : ∃ q, q = l.map Prod.snd := ⟨_, rfl⟩
    have HINS := Lib.hid hins
    have HINL := Lib.hid (show ins.length = n by rw [hins, List.length_map]; exact HI.out.2.2.1)
    rw [← hins] at HPT HPI
    clear hins
    go_upto_block 0 with fail
    go_cut [] from 10 (fun wr => Hid (PenAt wr (K0 gp) gp (pre ++ ins.flatMap putI) ∧ KB gp w4 wr))
    case first =>
      go_wp2_with fail
      go_loopw [23] (fun iv wr => ∃ k : Nat, k ≤ n ∧ iv = .int .i64 k ∧ Hid (PenAt wr (K0 gp) gp (pre ++ (ins.take k).flatMap putI) ∧ KB gp w4 wr)) (fun iv _ => n - (intOf iv).toNat)
      case atStart => exact ⟨0, by omega, rfl, Lib.hid ⟨by simpa using HP.out, HKB.out⟩⟩
      case round =>
        obtain ⟨k, hk, rfl, hI⟩ := hrel
        clear HP HKB c0
        have HP := Lib.hid hI.out.1; have HKB := Lib.hid hI.out.2
        clear hI
        rename World => w_
        by_cases hlt : k < n
        · obtain ⟨b, off, p, hA, hp, hok, hc⟩ := HI.out.at_ hlt
          subst hA
          have HBW := Lib.hid (HBB.out _ HKB.out)
          obtain ⟨hsl, hix0, hix1⟩ := HEL.out p (List.mem_of_getElem? hp)
          have HC := Lib.hid (show ∀ j u, (inV p.1 p.2)[j]? = some u → w_.cell? ⟨b, off + k * 35 + j, none⟩ = some u from fun j u hu => bcell HBW.out (hc j u hu))
          have HPC := Lib.hid (inV_cl hok)
          have HSN := Lib.hid (fm_snoc putI (l := ins) (k := k) (p := p.2) (by rw [HINS.out, List.getElem?_map, hp]; rfl))
          obtain ⟨⟨A4, c4, e4, hc4, hs4⟩, hio⟩ := hok
          have HS4 := Lib.hid hs4
          have HFL := Lib.hid (fm_le putI 130 k HPI.out)
          have HA32 := Lib.hid (in_at (v := p.1) hio)
          have HDG := Lib.hid (dig_map hio.1)
          have HTX := Lib.hid (show ∀ (j : Nat) (u : Value), (p.2.tx.map B)[j]? = some u → (inV p.1 p.2)[0 + j]? = some u from fun j u hu => by
            rw [Nat.zero_add]; unfold inV; rw [List.getElem?_append_left (List.getElem?_eq_some_iff.1 hu).1]; exact hu)
          obtain ⟨pv, hpv⟩ : ∃ q, q = inV p.1 p.2 := ⟨_, rfl⟩
          rw [← hpv] at HC HPC HA32 HTX
          rw [e4] at HA32
          obtain ⟨xn, hxn⟩ : ∃ q : Nat, p.2.index = (q : Int) := ⟨p.2.index.toNat, (Int.toNat_of_nonneg hix0).symm⟩
          obtain ⟨an, han⟩ : ∃ q : Nat, p.2.amount = (q : Int) := ⟨p.2.amount.toNat, (Int.toNat_of_nonneg hio.2.2.1).symm⟩
          have HAU := Lib.hid (show an ≤ 18446744073709551615 by have := hio.2.2.2; rw [han] at this; omega)
          have hxb : xn ≤ 15 := by rw [hxn] at hix1; omega
          obtain ⟨sl, hsl2⟩ : ∃ q, q = p.2.secret.length := ⟨_, rfl⟩
          obtain ⟨tx, htx⟩ : ∃ q, q = p.2.tx := ⟨_, rfl⟩
          obtain ⟨sc, hsc⟩ : ∃ q, q = p.2.secret := ⟨_, rfl⟩
          have HPU := Lib.hid (show putI p.2 = tx ++ numB xn ++ numB an ++ numB sl ++ sc by unfold putI; rw [hxn, han, ← htx, ← hsc, hsl2, hsc]; simp only [Int.toNat_natCast])
          have htl : tx.length = 32 := by rw [htx]; exact hio.1
          have hslb : sl ≤ 64 := by rw [hsl2]; exact hsl
          rw [hxn, han, ← hsl2] at HA32
          rw [← htx] at HTX HDG
          rw [← hsl2, ← hsc] at HS4
          obtain ⟨xs, hxs⟩ : ∃ q, q = pre ++ (ins.take k).flatMap putI := ⟨_, rfl⟩
          have HXE := Lib.hid hxs
          have hxl : xs.length ≤ 9 + 16 * 130 := by rw [hxs, List.length_append]; have := HFL.out; omega
          rw [← hxs] at HP
          clear hp hc hsl hix0 hix1 e4 hc4 hs4 hio hpv hxn han hsl2 htx hsc hxs HFL HBW
          have u1 := numB_le (n := xn) (by omega); have u2 := numB_le (n := an) HAU.out; have u3 := numB_le (n := sl) (by omega)
          have HB := Lib.hid (HBB.out _ HKB.out)
          go_wp2_with (first | (with_reducible refine wpl_loadm (o := ⟨some 26, _, _, _, _, _⟩) rfl rfl row_tin HC.out rfl HPC.out.len ?_) | (with_reducible refine wpl_alloc (o := ⟨some 7, _, _, _, _, _⟩) rfl rfl zero_tin ?_))
          intro w1_ hb1_ hbw1_ hsz1_
          have HB1_ := Lib.hid (at_mk hb1_ len_tin)
          have HBW1_ := Lib.hid hbw1_
          have HZ1_ := Lib.hid hsz1_
          clear hb1_ hbw1_ hsz1_
          go_wp2_with (first | (with_reducible refine wpl_storeb (o := ⟨none, .store _ _ _, _, _, _, _⟩) rfl rfl row_tin HB1_.out.blk rfl rfl HB1_.out.len HPC.out.len HPC.out.one ?_))
          intro w2_ hb2_ hg2_ hsz2_
          have hb_ := var_grow HBW1_.out HZ1_.out hg2_
          have HX_ := Lib.hid (at_mk hb2_ HPC.out.len)
          clear hb2_ hg2_ hsz2_ HB1_ HBW1_ HZ1_
          have HB_ := Lib.hid (HB.out.grow' hb_)
          clear HB
          have HB := HB_
          clear HB_
          have HP_ := Lib.hid (HP.out.grow hb_)
          clear HP
          have HP := HP_
          clear HP_
          have HKB_ := Lib.hid (HKB.out.grow hb_)
          clear HKB
          have HKB := HKB_
          clear HKB_
          generalize hg_ : w_.heap.size = g7 at HX_ ⊢
          clear hg_
          have HE := HX_
          clear hb_ HX_
          clear w1_
          try clear w_
          rename World => w_
          clear HB HC
          have HGQ := Lib.hid (show g7 ≠ gp from fun e => by
            obtain ⟨_, _, h1, _⟩ := HP.out
            have h2 := HE.out.blk
            rw [e] at h2
            unfold Blk at h1 h2
            rw [h1] at h2
            injection h2 with h2
            injection h2 with _ h2
            exact absurd h2 (by decide))
          have HP_ := Lib.hid (HP.out.plus HE.out.blk (by decide) HGQ.out)
          clear HP
          have HP := HP_
          clear HP_
          have HM := Lib.hid (show ∀ (j : Nat) (u : Value), (tx.map B)[j]? = some u → w_.cell? ⟨g7, 0 + j, none⟩ = some u from fun j u hu => HE.out.blk.at_ (HTX.out j u hu))
          go_wp2_with (first | (with_reducible refine wpl_loadm (o := ⟨some 29, _, _, _, _, _⟩) rfl rfl row_id HM.out rfl HDG.out.len ?_))
          clear HM
          go_wp2_with fail
          refine (pid_any gp (Kq gp g7) xs HDG.out _ HP.out (by omega)).mono ?_
          rintro e w2_ ⟨rfl, hp_, hk_⟩
          have HP_ := Lib.hid hp_
          have HKB_ := Lib.hid (HKB.out.kept hk_)
          have HE_ := Lib.hid (HE.out.kept hk_)
          clear hp_ hk_ HP HKB HE
          have HP := HP_; have HKB := HKB_; have HE := HE_
          clear HP_ HKB_ HE_
          try clear w_
          rename World => w_
          have c32 := HE.out.blk.at_ HA32.out.1
          have q2 := conv_u64' (n := xn) (by omega)
          go_wp2_with fail
          refine (num_any gp xn (Kq gp g7) (xs ++ tx) _ HP.out (by clear q2; rw [List.length_append]; omega) (by clear q2; omega)).mono ?_
          rintro e w2_ ⟨rfl, hp_, hk_⟩
          have HP_ := Lib.hid hp_
          have HKB_ := Lib.hid (HKB.out.kept hk_)
          have HE_ := Lib.hid (HE.out.kept hk_)
          clear hp_ hk_ HP HKB HE
          have HP := HP_; have HKB := HKB_; have HE := HE_
          clear HP_ HKB_ HE_
          try clear w_
          rename World => w_
          clear c32 q2
          have c33 := HE.out.blk.at_ HA32.out.2.1
          go_wp2_with fail
          refine (num_any gp an (Kq gp g7) (xs ++ tx ++ numB xn) _ HP.out (by rw [List.length_append, List.length_append]; omega) HAU.out).mono ?_
          rintro e w2_ ⟨rfl, hp_, hk_⟩
          have HP_ := Lib.hid hp_
          have HKB_ := Lib.hid (HKB.out.kept hk_)
          have HE_ := Lib.hid (HE.out.kept hk_)
          clear hp_ hk_ HP HKB HE
          have HP := HP_; have HKB := HKB_; have HE := HE_
          clear HP_ HKB_ HE_
          try clear w_
          rename World => w_
          clear c33
          have c34 := HE.out.blk.at_ HA32.out.2.2
          have HS5 := Lib.hid (HS4.out.below (HBB.out _ HKB.out))
          go_wp2_with fail
          refine (ptext_any gp (Kq gp g7) (xs ++ tx ++ numB xn ++ numB an) _ HP.out HS5.out (fun j hj => .inl (Nat.lt_of_lt_of_le hj HG1.out.2)) (by rw [List.length_append, List.length_append, List.length_append]; omega)).mono ?_
          rintro e w2_ ⟨rfl, hp_, hk_⟩
          have HP_ := Lib.hid hp_.minus
          have HKB_ := Lib.hid (HKB.out.kept hk_)
          clear hp_ hk_ HP HKB HE
          have HP := HP_; have HKB := HKB_
          clear HP_ HKB_
          try clear w_
          rename World => w_
          clear c34 HS5
          have HPN := Lib.hid (show PenAt w_ (K0 gp) gp (pre ++ (ins.take (k + 1)).flatMap putI) by
            rw [HSN.out, HPU.out, ← List.append_assoc, ← HXE.out]
            have h := HP.out
            simp only [List.append_assoc] at h ⊢
            exact h)
          clear HP u1 u2 u3
          go_wp2_with fail
          go_roundw
          case rel => exact ⟨k + 1, by omega, by go_num, Lib.hid ⟨HPN.out, HKB.out⟩⟩
          case measure => simp [intOf]; omega
        · obtain rfl : k = n := by omega
          have HP_ := Lib.hid (show PenAt w_ (K0 gp) gp (pre ++ ins.flatMap putI) by have h := HP.out; rw [List.take_of_length_le (by rw [HINL.out]; exact Nat.le_refl _)] at h; exact h)
          go_wp2_with fail
          go_meet
          case rel => exact Lib.hid ⟨HP_.out, HKB.out⟩
    case rest =>
      clear HP HKB c0
      have HP := Lib.hid hcut.out.1; have HKB := Lib.hid hcut.out.2
      clear hcut
      try clear w_
      rename World => w_
      have HFL := Lib.hid (show (ins.flatMap putI).length ≤ n * 130 by have h := fm_len putI 130 ins HPI.out; rw [HINL.out] at h; exact h)
      obtain ⟨p1, hp1⟩ : ∃ q, q = pre ++ ins.flatMap putI := ⟨_, rfl⟩
      have hp1l : p1.length ≤ 9 + 16 * 130 := by rw [hp1, List.length_append]; have := HFL.out; omega
      rw [← hp1] at HP HPT
      clear hp1 HFL hprl
      have c1 := (HXB.out _ HKB.out).blk.at_ HT1.out
      have qm := conv_u64' (n := n2) (by omega)
      go_wp2_with fail
      refine (num_any gp n2 (Kq gp g1) p1 _ (HKP.out _ _ HKB.out HP.out) (by clear qm; omega) (by clear qm; omega)).mono ?_
      rintro e w2_ ⟨rfl, hp_, hk_⟩
      have HP_ := Lib.hid hp_.minus
      have HKB_ := Lib.hid (HKB.out.kept hk_)
      clear hp_ hk_ HP HKB
      have HP := HP_; have HKB := HKB_
      clear HP_ HKB_
      try clear w_
      rename World => w_
      clear c1 qm
      obtain ⟨p2, hp2⟩ : ∃ q, q = p1 ++ numB n2 := ⟨_, rfl⟩
      have hp2l : p2.length ≤ 18 + 16 * 130 := by rw [hp2, List.length_append]; omega
      rw [← hp2] at HP HPT
      clear hp2 lm hp1l
      have c1 := (HXB.out _ HKB.out).blk.at_ HT1.out
      go_upto_block 2 with fail
      go_cut [] from 10 (fun wr => Hid (PenAt wr (K0 gp) gp (p2 ++ os.flatMap putO) ∧ KB gp w4 wr))
      case first =>
        go_wp2_with fail
        go_loopw [51] (fun iv wr => ∃ k : Nat, k ≤ n2 ∧ iv = .int .i64 k ∧ Hid (PenAt wr (K0 gp) gp (p2 ++ (os.take k).flatMap putO) ∧ KB gp w4 wr)) (fun iv _ => n2 - (intOf iv).toNat)
        case atStart => exact ⟨0, by omega, rfl, Lib.hid ⟨by simpa using HP.out, HKB.out⟩⟩
        case round =>
          obtain ⟨k, hk, rfl, hI⟩ := hrel
          clear HP HKB c1
          have HP := Lib.hid hI.out.1; have HKB := Lib.hid hI.out.2
          clear hI
          rename World => w_
          by_cases hlt : k < n2
          · obtain ⟨b, off, p, hA, hp, hok, hc⟩ := HO.out.at_ hlt
            subst hA
            have HB := Lib.hid (HBB.out _ HKB.out)
            have HC := Lib.hid (show ∀ j u, (outV p)[j]? = some u → w_.cell? ⟨b, off + k * 33 + j, none⟩ = some u from fun j u hu => bcell HB.out (hc j u hu))
            have HPC := Lib.hid (outV_cl hok)
            have HSN := Lib.hid (fm_snoc putO hp)
            have HFL := Lib.hid (fm_le putO 50 k HPO.out)
            have HA32 := Lib.hid (out_at hok)
            have HDG := Lib.hid (dig_map hok.1)
            have HTX := Lib.hid (show ∀ (j : Nat) (u : Value), (p.owner.map B)[j]? = some u → (outV p)[0 + j]? = some u from fun j u hu => by
              rw [Nat.zero_add]; unfold outV; rw [List.getElem?_append_left (List.getElem?_eq_some_iff.1 hu).1]; exact hu)
            obtain ⟨pv, hpv⟩ : ∃ q, q = outV p := ⟨_, rfl⟩
            rw [← hpv] at HC HPC HA32 HTX
            obtain ⟨an, han⟩ : ∃ q : Nat, p.amount = (q : Int) := ⟨p.amount.toNat, (Int.toNat_of_nonneg hok.2.1).symm⟩
            have HAU := Lib.hid (show an ≤ 18446744073709551615 by have := hok.2.2; rw [han] at this; omega)
            obtain ⟨tx, htx⟩ : ∃ q, q = p.owner := ⟨_, rfl⟩
            have HPU := Lib.hid (show putO p = tx ++ numB an by unfold putO; rw [han, ← htx]; simp only [Int.toNat_natCast])
            have htl : tx.length = 32 := by rw [htx]; exact hok.1
            rw [han] at HA32
            rw [← htx] at HTX HDG
            obtain ⟨xs, hxs⟩ : ∃ q, q = p2 ++ (os.take k).flatMap putO := ⟨_, rfl⟩
            have HXE := Lib.hid hxs
            have hxl : xs.length ≤ 18 + 16 * 130 + 16 * 50 := by rw [hxs, List.length_append]; have := HFL.out; omega
            rw [← hxs] at HP
            clear hp hc hok hpv han htx hxs HFL
            have u2 := numB_le (n := an) HAU.out
            go_wp2_with (first | (with_reducible refine wpl_loadm (o := ⟨some 54, _, _, _, _, _⟩) rfl rfl row_tout HC.out rfl HPC.out.len ?_) | (with_reducible refine wpl_alloc (o := ⟨some 9, _, _, _, _, _⟩) rfl rfl zero_tout ?_))
            intro w1_ hb1_ hbw1_ hsz1_
            have HB1_ := Lib.hid (at_mk hb1_ len_tout)
            have HBW1_ := Lib.hid hbw1_
            have HZ1_ := Lib.hid hsz1_
            clear hb1_ hbw1_ hsz1_
            go_wp2_with (first | (with_reducible refine wpl_storeb (o := ⟨none, .store _ _ _, _, _, _, _⟩) rfl rfl row_tout HB1_.out.blk rfl rfl HB1_.out.len HPC.out.len HPC.out.one ?_))
            intro w2_ hb2_ hg2_ hsz2_
            have hb_ := var_grow HBW1_.out HZ1_.out hg2_
            have HX_ := Lib.hid (at_mk hb2_ HPC.out.len)
            clear hb2_ hg2_ hsz2_ HB1_ HBW1_ HZ1_
            have HB_ := Lib.hid (HB.out.grow' hb_)
            clear HB
            have HB := HB_
            clear HB_
            have HP_ := Lib.hid (HP.out.grow hb_)
            clear HP
            have HP := HP_
            clear HP_
            have HKB_ := Lib.hid (HKB.out.grow hb_)
            clear HKB
            have HKB := HKB_
            clear HKB_
            generalize hg_ : w_.heap.size = g7 at HX_ ⊢
            clear hg_
            have HE := HX_
            clear hb_ HX_
            clear w1_
            try clear w_
            rename World => w_
            clear HB HC
            have HGQ := Lib.hid (show g7 ≠ gp from fun e => by
              obtain ⟨_, _, h1, _⟩ := HP.out
              have h2 := HE.out.blk
              rw [e] at h2
              unfold Blk at h1 h2
              rw [h1] at h2
              injection h2 with h2
              injection h2 with _ h2
              exact absurd h2 (by decide))
            have HP_ := Lib.hid (HP.out.plus HE.out.blk (by decide) HGQ.out)
            clear HP
            have HP := HP_
            clear HP_
            have HM := Lib.hid (show ∀ (j : Nat) (u : Value), (tx.map B)[j]? = some u → w_.cell? ⟨g7, 0 + j, none⟩ = some u from fun j u hu => HE.out.blk.at_ (HTX.out j u hu))
            go_wp2_with (first | (with_reducible refine wpl_loadm (o := ⟨some 56, _, _, _, _, _⟩) rfl rfl row_id HM.out rfl HDG.out.len ?_))
            clear HM
            go_wp2_with fail
            refine (pid_any gp (Kq gp g7) xs HDG.out _ HP.out (by omega)).mono ?_
            rintro e w2_ ⟨rfl, hp_, hk_⟩
            have HP_ := Lib.hid hp_
            have HKB_ := Lib.hid (HKB.out.kept hk_)
            have HE_ := Lib.hid (HE.out.kept hk_)
            clear hp_ hk_ HP HKB HE
            have HP := HP_; have HKB := HKB_; have HE := HE_
            clear HP_ HKB_ HE_
            try clear w_
            rename World => w_
            have c33 := HE.out.blk.at_ HA32.out
            go_wp2_with fail
            refine (num_any gp an (Kq gp g7) (xs ++ tx) _ HP.out (by rw [List.length_append]; omega) HAU.out).mono ?_
            rintro e w2_ ⟨rfl, hp_, hk_⟩
            have HP_ := Lib.hid hp_.minus
            have HKB_ := Lib.hid (HKB.out.kept hk_)
            clear hp_ hk_ HP HKB HE
            have HP := HP_; have HKB := HKB_
            clear HP_ HKB_
            try clear w_
            rename World => w_
            clear c33
            have HPN := Lib.hid (show PenAt w_ (K0 gp) gp (p2 ++ (os.take (k + 1)).flatMap putO) by
              rw [HSN.out, HPU.out, ← List.append_assoc, ← HXE.out]
              have h := HP.out
              simp only [List.append_assoc] at h ⊢
              exact h)
            clear HP u2
            go_wp2_with fail
            go_roundw
            case rel => exact ⟨k + 1, by omega, by go_num, Lib.hid ⟨HPN.out, HKB.out⟩⟩
            case measure => simp [intOf]; omega
          · obtain rfl : k = n2 := by omega
            have HP_ := Lib.hid (show PenAt w_ (K0 gp) gp (p2 ++ os.flatMap putO) by have h := HP.out; rw [List.take_of_length_le (by rw [HO.out.2.2.1]; exact Nat.le_refl _)] at h; exact h)
            go_wp2_with fail
            go_meet
            case rel => exact Lib.hid ⟨HP_.out, HKB.out⟩
      case rest =>
        clear HP HKB c1
        have HP := Lib.hid hcut.out.1; have HKB := Lib.hid hcut.out.2
        clear hcut
        try clear w_
        rename World => w_
        have HFL := Lib.hid (show (os.flatMap putO).length ≤ n2 * 50 by have h := fm_len putO 50 os HPO.out; rw [HO.out.2.2.1] at h; exact h)
        obtain ⟨p3, hp3⟩ : ∃ q, q = p2 ++ os.flatMap putO := ⟨_, rfl⟩
        have hp3l : p3.length ≤ 18 + 16 * 130 + 16 * 50 := by rw [hp3, List.length_append]; have := HFL.out; omega
        rw [← hp3] at HP HPT
        clear hp3 HFL hp2l
        have uf := numB_le (n := fn) HFU.out
        have ue := numB_le (n := en) (by have := HEU.out; omega)
        have c2 := (HXB.out _ HKB.out).blk.at_ HT2.out
        go_wp2_with fail
        refine (num_any gp fn (Kq gp g1) p3 _ (HKP.out _ _ HKB.out HP.out) (by omega) HFU.out).mono ?_
        rintro e w2_ ⟨rfl, hp_, hk_⟩
        have HP_ := Lib.hid hp_.minus
        have HKB_ := Lib.hid (HKB.out.kept hk_)
        clear hp_ hk_ HP HKB
        have HP := HP_; have HKB := HKB_
        clear HP_ HKB_
        try clear w_
        rename World => w_
        clear c2
        have c3 := (HXB.out _ HKB.out).blk.at_ HT3.out
        have qe := conv_u64' (n := en) (by have := HEU.out; omega)
        go_wp2_with fail
        refine (num_any gp en (Kq gp g1) (p3 ++ numB fn) _ (HKP.out _ _ HKB.out HP.out) (by clear qe; rw [List.length_append]; omega) (by have := HEU.out; clear qe; omega)).mono ?_
        rintro e w2_ ⟨rfl, hp_, hk_⟩
        have HP_ := Lib.hid hp_.minus
        have HKB_ := Lib.hid (HKB.out.kept hk_)
        clear hp_ hk_ HP HKB
        have HP := HP_; have HKB := HKB_
        clear HP_ HKB_
        try clear w_
        rename World => w_
        clear c3 qe
        rw [← HPT.out] at HP
        have HTL := Lib.hid (show tf.length ≤ 100000 by rw [HPT.out]; simp only [List.length_append]; omega)
        go_wp2_with fail
        refine (pbytes_any gp (K0 gp) tf _ HP.out (by have := HTL.out; omega)).mono ?_
        rintro e w6 ⟨A', c', rfl, ho, hc, hg5⟩
        have HO5 := Lib.hid (Sl.of_own ho)
        have HC5 := Lib.hid hc
        have HB6 := Lib.hid (show Grow w w6 from (HBB.out _ HKB.out).grow' hg5)
        clear ho hc hg5
        go_wp2_with fail
        go_ret2
        exact ⟨A', c', rfl, HO5.out, HC5.out, HB6.out⟩
  · have d0 : (ck != 0) = true := by simpa using h0
    have HNI := Lib.hid (HFN.out h0)
    clear h0
    go_wp2_with fail
    go_ret2
    refine ⟨none, 0, ?_⟩
    rw [HNI.out]
    exact ⟨rfl, Sl.nil, Nat.le_refl _, HB.out⟩
end Go.Proofs.Ytphmefhnffoafaa

/- Contracts of tx.Size, tx.Owner, and the document's Owner; the example of seisinlaw07. -/
namespace Go.Proofs.Ytphmefhnffoafaa
open Go.RowKit Go.Shelf
set_option linter.unusedVariables false
set_option maxRecDepth 100000 in
set_option maxHeartbeats 2000000 in
theorem tsize_any {A : Option Addr} {n c : Nat} {A2 : Option Addr} {n2 c2 : Nat} {fee ex : Int} {l : List (Value × Inp)} {os : List Outp} (w : World) (hi : InsAt w A n c l) (ho : OutsAt w A2 n2 c2 os) (hn : n ≤ 100000) (hn2 : n2 ≤ 100000) (hf : U64 fee) (hex : I64 ex) :
    Calls Try.prog 9 #[.agg (txV A n c A2 n2 c2 fee ex).toArray] w fun e w' => e = .returned (.int .i64 ((tformB ⟨l.map Prod.snd, os, fee, ex⟩).length : Int)) ∧ Grow w w' := by
  have HI := Lib.hid hi; have HO := Lib.hid ho
  have HTC := Lib.hid (txV_cl (A := A) (n := n) (c := c) (A2 := A2) (n2 := n2) (c2 := c2) (fee := fee) (ex := ex))
  have HP := Lib.hid (fun w hi ho => tput_any (A := A) (n := n) (c := c) (A2 := A2) (n2 := n2) (c2 := c2) (fee := fee) (ex := ex) (l := l) (os := os) w hi ho hn hn2 hf hex)
  obtain ⟨tv, htv⟩ : ∃ q, q = txV A n c A2 n2 c2 fee ex := ⟨_, rfl⟩
  rw [← htv] at HTC HP ⊢
  obtain ⟨tf, htf⟩ : ∃ q, q = tformB ⟨l.map Prod.snd, os, fee, ex⟩ := ⟨_, rfl⟩
  rw [← htf] at HP ⊢
  obtain ⟨w_, hw⟩ : ∃ x, x = w := ⟨_, rfl⟩
  have HB := Lib.hid (show Below w.heap.size w w_ by rw [hw]; exact Below.refl _ _)
  suffices H : Calls Try.prog 9 #[.agg tv.toArray] w_ fun e w' => e = .returned (.int .i64 (tf.length : Int)) ∧ Grow w w' by rw [hw] at H; exact H
  clear hw hi ho htv htf hf hex
  go_enter Try.func9, Try.ntmps9
  go_wp2_with (first | (with_reducible refine wpl_box (o := ⟨some 1, _, _, _, _, _⟩) rfl rfl rfl ?_))
  intro w2_ hb2_ hb_ hsz2_
  have HX_ := Lib.hid (at_mk hb2_ HTC.out.len)
  clear hb2_ hsz2_
  have HG_ := Lib.hid HB.out.size
  have HB_ := Lib.hid (HB.out.grow' hb_)
  clear HB
  have HB := HB_
  clear HB_
  generalize hg_ : w_.heap.size = g1 at HX_ HG_ ⊢
  clear hg_
  have HX_g := HG_
  clear HG_
  have HX := HX_
  clear hb_ HX_
  try clear w_
  rename World => w_
  go_wp2_with (first | (with_reducible refine wpl_loadb (o := ⟨some 6, _, _, _, _, _⟩) rfl rfl row_tx HX.out.blk rfl HX.out.len ?_))
  refine (HP.out _ (HI.out.grow HB.out) (HO.out.grow HB.out)).mono ?_
  rintro e w2_ ⟨A', c', rfl, hs, hc, hb_⟩
  have HB_ := Lib.hid (HB.out.grow' hb_)
  clear hs hc hb_
  go_wp2_with fail
  go_ret
  exact ⟨rfl, HB_.out⟩
end Go.Proofs.Ytphmefhnffoafaa

/- The example of seisinlaw07. -/
namespace Go.Proofs.Ytphmefhnffoafaa
open Go.RowKit Go.Shelf
set_option linter.unusedVariables false
section
variable {P : Program} {ops : Array Oper} {rest : List Oper} {o : Oper} {a : Act} {w : World} {Q : Exit → Act → World → Prop}
theorem wpl_buildg (hw : Region.wanted o (yielded ops a.tmps) = true) {t : TypeId} {parts : Array (Nat × Operand)} (ho : o.op = .build t parts) {cells : List Value} (h : P.built t (parts.toList.map fun (i, x) => (i, a.eval x)) = some cells.toArray)
    (hk : wpList P ops Q rest (a.put o.dst (.agg cells.toArray)) w) : wpList P ops Q (o :: rest) a w := by
  refine wpl_wanted hw fun K hK => ?_
  unfold Oper.wp
  rw [exec_build ho h w]
  exact hK _ _ hk
end
theorem zero_tx : (Try.prog.info? 28).map (·.zero) = some (some (.agg (txV none 0 0 none 0 0 0 0).toArray)) := by kernel_rfl
theorem len_tx : (txV none 0 0 none 0 0 0 0).length = 4 := rfl
theorem built_tx0 (parts : List (Nat × Value)) : Try.prog.built 28 parts = Instr.fill (fun i => (#[(0, 1), (1, 1), (2, 1), (3, 1)] : Array (Nat × Nat))[i]?) (txV none 0 0 none 0 0 0 0).toArray parts := by kernel_rfl
theorem bt_tx3 {A A2 : Option Addr} {n c n2 c2 : Nat} {fee : Int} : Try.prog.built 28 [(0, .slice A n c), (1, .slice A2 n2 c2), (2, .int .u64 fee)] = some (txV A n c A2 n2 c2 fee 0).toArray := by
  rw [built_tx0, fill_cons (off := 0) (s := 1) (cs := [.slice A n c]) rfl rfl rfl (by simp [txV]), fill_cons (off := 1) (s := 1) (cs := [.slice A2 n2 c2]) rfl rfl rfl (by simp [txV, splice]), fill_cons (off := 2) (s := 1) (cs := [.int .u64 fee]) rfl rfl rfl (by simp [txV, splice]), fill_nil]; rfl
theorem bt_tx0 : Try.prog.built 28 [] = some (txV none 0 0 none 0 0 0 0).toArray := by rw [built_tx0]; rfl
def inp7 : Inp := ⟨zeroD, 0, 5, []⟩
def out7 : Outp := ⟨zeroD, 4⟩
theorem chk7 : checkT ⟨[inp7], [out7], 1, 0⟩ = 0 := by decide
theorem chk0 : checkT ⟨[], [], 0, 0⟩ = 4 := by decide
theorem numB_len1 {n : Nat} (h0 : n ≠ 0) (h : n < 256) : (numB n).length = 2 := by
  rw [numB_eq, List.length_append, List.length_reverse, leB_pos h0, show n / 256 = 0 by omega, leB_zero]; rfl
theorem numB_len0 : (numB 0).length = 1 := by rw [numB_eq, leB_zero]; rfl
theorem len7 : (tformB ⟨[inp7], [out7], 1, 0⟩).length = 77 := by
  unfold tformB
  rw [if_pos chk7]
  unfold putTB
  simp only [List.flatMap_cons, List.flatMap_nil, List.append_nil, List.length_append, List.length_cons, List.length_nil, putI, putO, inp7, out7, zeroD, List.length_replicate]
  rw [show (0 : Int).toNat = 0 from rfl, show (5 : Int).toNat = 5 from rfl, show (4 : Int).toNat = 4 from rfl, show (1 : Int).toNat = 1 from rfl, show 0 + 1 = 1 from rfl, numB_len0, numB_len1 (n := 1) (by omega) (by omega), numB_len1 (n := 5) (by omega) (by omega), numB_len1 (n := 4) (by omega) (by omega)]
theorem len7' : ((tformB ⟨[inp7], [out7], 1, 0⟩).length : Int) = 77 := by rw [len7]; rfl
theorem insAt_nil {w : World} : InsAt w none 0 0 [] := ⟨Sl.nil, by simp, rfl, Nat.le_refl _⟩
theorem outsAt_nil {w : World} : OutsAt w none 0 0 [] := ⟨Sl.nil, by simp, rfl, Nat.le_refl _⟩
set_option maxRecDepth 100000 in
set_option maxHeartbeats 2000000 in
theorem awake7_any (w : World) : Calls Try.prog 4 #[] w fun e w' => e = .returned (.bool true) ∧ Grow w w' := by
  have HCK := Lib.hid (fun (A A2 : Option Addr) w hi ho => tcheck_any (A := A) (n := 1) (c := 1) (A2 := A2) (n2 := 1) (c2 := 1) (fee := 1) (ex := 0) (l := [(nilS, inp7)]) (os := [out7]) w hi ho (by omega) (by omega) (by simp [U64]) (by simp [I64]))
  have HSZ := Lib.hid (fun (A A2 : Option Addr) w hi ho => tsize_any (A := A) (n := 1) (c := 1) (A2 := A2) (n2 := 1) (c2 := 1) (fee := 1) (ex := 0) (l := [(nilS, inp7)]) (os := [out7]) w hi ho (by omega) (by omega) (by simp [U64]) (by simp [I64]))
  have HC0 := Lib.hid (fun w => tcheck_any (A := none) (n := 0) (c := 0) (A2 := none) (n2 := 0) (c2 := 0) (fee := 0) (ex := 0) (l := []) (os := []) w insAt_nil outsAt_nil (by omega) (by omega) (by simp [U64]) (by simp [I64]))
  simp only [List.map_cons, List.map_nil, chk7, len7', chk0] at HCK HSZ HC0
  have T0 := Lib.hid bt_tx0
  have T3 := Lib.hid (fun (A A2 : Option Addr) => bt_tx3 (A := A) (A2 := A2) (n := 1) (c := 1) (n2 := 1) (c2 := 1) (fee := 1))
  have HB := Lib.hid (Below.refl w.heap.size w)
  go_enter Try.func4, Try.ntmps4
  go_wp2_with (first | (with_reducible refine wpl_stop (o := ⟨some 6, _, _, _, _, _⟩) ?_))
  refine stop_go ?_
  generalize hw1 : World.alloc w _ = w1
  generalize hw2 : World.alloc w1 _ = w2
  obtain ⟨hX1, hb1, hs1⟩ := alloc_eq hw1
  obtain ⟨hX2, hb2, hs2⟩ := alloc_eq hw2
  rw [hs1] at hX2
  have HII := Lib.hid (show InsAt w2 (some ⟨w.heap.size, 0, none⟩) 1 1 [(nilS, inp7)] from ⟨by have h := Blk.sl (sz := 35) (n := 1) (hX1.grow hb2) rfl; exact h, fun p hp => by rw [List.mem_singleton.1 hp]; exact ⟨⟨none, 0, rfl, Nat.le_refl _, Sl.nil⟩, by simp [inp7, Inp.ok, zeroD, I64, U64]⟩, rfl, Nat.le_refl _⟩)
  have HOO := Lib.hid (show OutsAt w2 (some ⟨w.heap.size + 1, 0, none⟩) 1 1 [out7] from ⟨by have h := Blk.sl (sz := 33) (n := 1) hX2 rfl; exact h, fun p hp => by rw [List.mem_singleton.1 hp]; simp [out7, Outp.ok, zeroD, U64], rfl, Nat.le_refl _⟩)
  have HB_ := Lib.hid (HB.out.grow' (Grow.trans _ _ _ hb1 hb2))
  clear hw1 hw2 hX1 hX2 hb1 hb2 hs1 hs2 HB
  have HB := HB_
  clear HB_
  have HT3 := Lib.hid (T3.out (some ⟨w.heap.size, 0, none⟩) (some ⟨w.heap.size + 1, 0, none⟩))
  have HTC := Lib.hid (txV_cl (A := some ⟨w.heap.size, 0, none⟩) (n := 1) (c := 1) (A2 := some ⟨w.heap.size + 1, 0, none⟩) (n2 := 1) (c2 := 1) (fee := 1) (ex := 0))
  have HCK1 := Lib.hid (HCK.out (some ⟨w.heap.size, 0, none⟩) (some ⟨w.heap.size + 1, 0, none⟩))
  have HSZ1 := Lib.hid (HSZ.out (some ⟨w.heap.size, 0, none⟩) (some ⟨w.heap.size + 1, 0, none⟩))
  obtain ⟨tv, htv⟩ : ∃ q, q = txV (some ⟨w.heap.size, 0, none⟩) 1 1 (some ⟨w.heap.size + 1, 0, none⟩) 1 1 1 0 := ⟨_, rfl⟩
  rw [← htv] at HT3 HTC HCK1 HSZ1
  obtain ⟨zv, hzv⟩ : ∃ q, q = txV none 0 0 none 0 0 0 0 := ⟨_, rfl⟩
  rw [← hzv] at T0 HC0
  clear htv hzv T3 HCK HSZ
  refine wpl_build rfl rfl HT3.out ?_
  rename World => w_
  go_wp2_with (first | (with_reducible refine wpl_alloc (o := ⟨some 1, _, _, _, _, _⟩) rfl rfl zero_tx ?_))
  intro w1_ hb1_ hbw1_ hsz1_
  have HB1_ := Lib.hid (at_mk hb1_ len_tx)
  have HBW1_ := Lib.hid hbw1_
  have HZ1_ := Lib.hid hsz1_
  clear hb1_ hbw1_ hsz1_
  go_wp2_with (first | (with_reducible refine wpl_storeb (o := ⟨none, .store _ _ _, _, _, _, _⟩) rfl rfl row_tx HB1_.out.blk rfl rfl HB1_.out.len HTC.out.len HTC.out.one ?_))
  intro w2_ hb2_ hg2_ hsz2_
  have hb_ := var_grow HBW1_.out HZ1_.out hg2_
  have HX_ := Lib.hid (at_mk hb2_ HTC.out.len)
  clear hb2_ hg2_ hsz2_ HB1_ HBW1_ HZ1_
  have HB_ := Lib.hid (HB.out.grow' hb_)
  clear HB
  have HB := HB_
  clear HB_
  have HII_ := Lib.hid (HII.out.grow hb_)
  clear HII
  have HII := HII_
  clear HII_
  have HOO_ := Lib.hid (HOO.out.grow hb_)
  clear HOO
  have HOO := HOO_
  clear HOO_
  generalize hg_ : w_.heap.size = g1 at HX_ ⊢
  clear hg_
  have HX := HX_
  clear hb_ HX_
  clear w1_
  try clear w_
  rename World => w_
  go_wp2_with (first | (with_reducible refine wpl_loadb (o := ⟨some 7, _, _, _, _, _⟩) rfl rfl row_tx HX.out.blk rfl HX.out.len ?_))
  refine (HCK1.out _ HII.out HOO.out).mono ?_
  rintro e w_ ⟨rfl, hb_⟩
  have HB_ := Lib.hid (HB.out.grow' hb_)
  clear HB
  have HB := HB_
  clear HB_
  have HX_ := Lib.hid (HX.out.grow hb_)
  clear HX
  have HX := HX_
  clear HX_
  have HII_ := Lib.hid (HII.out.grow hb_)
  clear HII
  have HII := HII_
  clear HII_
  have HOO_ := Lib.hid (HOO.out.grow hb_)
  clear HOO
  have HOO := HOO_
  clear HOO_
  clear hb_
  go_wp2_with (first | (with_reducible refine wpl_stop (o := ⟨some 11, _, _, _, _, _⟩) ?_))
  refine stop_go ?_
  refine wpl_buildg (by first | rfl | (go_simp; done) | fail) rfl T0.out ?_
  go_wp2_with fail
  refine (HC0.out _).mono ?_
  rintro e w_ ⟨rfl, hb_⟩
  have HB_ := Lib.hid (HB.out.grow' hb_)
  clear HB
  have HB := HB_
  clear HB_
  have HX_ := Lib.hid (HX.out.grow hb_)
  clear HX
  have HX := HX_
  clear HX_
  have HII_ := Lib.hid (HII.out.grow hb_)
  clear HII
  have HII := HII_
  clear HII_
  have HOO_ := Lib.hid (HOO.out.grow hb_)
  clear HOO
  have HOO := HOO_
  clear HOO_
  clear hb_
  go_wp2_with (first | (with_reducible refine wpl_loadb (o := ⟨some 16, _, _, _, _, _⟩) rfl rfl row_tx HX.out.blk rfl HX.out.len ?_) | (with_reducible refine wpl_loadw (o := ⟨some 16, _, _, _, _, _⟩) (by first | rfl | (go_simp; done) | fail) rfl row_tx HX.out.blk rfl HX.out.len ?_))
  refine (HSZ1.out _ HII.out HOO.out).mono ?_
  rintro e w_ ⟨rfl, hb_⟩
  have HB_ := Lib.hid (HB.out.grow' hb_)
  clear HB
  have HB := HB_
  clear HB_
  have HX_ := Lib.hid (HX.out.grow hb_)
  clear HX
  have HX := HX_
  clear HX_
  clear hb_
  go_wp2_with fail
  go_ret
  exact ⟨rfl, HB.out⟩
end Go.Proofs.Ytphmefhnffoafaa

/- The contract of field.Read, said to the block: what a reading function laid stays. -/
namespace Go.Proofs.Ytphmefhnffoafaa
open Go.RowKit Go.Shelf
set_option linter.unusedVariables false
set_option maxRecDepth 100000 in
set_option maxHeartbeats 1000000 in
theorem fread2_any (A : Option Addr) (n c : Nat) (bs : List UInt8) (F : FuncId) (cap : Array Value) (res : Except Nat (List UInt8)) (Q : World → Prop) (w : World) (hs : Sl w w.heap.size 1 A n (bs.map B)) (hn : n ≤ 1000000)
    (hcf : ∀ (args : Array Value) (w : World), (callFunc F args).run Try.prog w = .ok (.enter F args) w)
    (hdo : ∀ w1 Bd g, Grow w w1 → w.heap.size ≤ g → EyeAt w1 (w.heap.size + 1) Bd g bs → Calls Try.prog F (#[.pointer (some ⟨g, 0, none⟩)] ++ cap) w1 fun e w2 => Q w2 ∧ w1.heap.size ≤ w2.heap.size ∧ w2.heap[w.heap.size]? = w1.heap[w.heap.size]? ∧
      ((∃ x, res = .error x ∧ e = .panicked (brk x)) ∨ (∃ l', res = .ok l' ∧ e = .returned (.tuple #[]) ∧ EyeAt w2 (w.heap.size + 1) Bd g l'))) :
    Calls Try.prog 10 #[.slice A n c, .func (.func F) #[] cap] w fun e w' => e = .returned (.int .i64 (eyeErr res : Int)) ∧ ∃ w2, Q w2 ∧ w2.grownBy w' (some w.heap.size) := by
  have HS := Lib.hid hs
  have HDO := Lib.hid hdo
  clear hs hdo
  have hmf : ∀ (fn : Fn) (first cap : Array Value) (w : World), (Instr.makeFunc fn first cap).run Try.prog w = .ok (.func fn first cap) w := fun _ _ _ _ => rfl
  obtain ⟨ge, hge⟩ : ∃ ge, ge = w.heap.size := ⟨_, rfl⟩
  have HGE := Lib.hid hge
  clear hge
  go_enter_defers Try.func10, Try.ntmps10
  go_wp2_with fail
  generalize hw1 : World.alloc w _ = w1
  obtain ⟨hX, hb, hs⟩ := alloc_eq hw1
  rw [← HGE.out] at hX hs ⊢
  have HE1 := Lib.hid hX
  have HG1 := Lib.hid (show Grow w w1 from hb)
  have HZ1 := Lib.hid hs
  have HS1 := Lib.hid ((HS.out.below HG1.out).more HG1.out.size)
  clear hX hb hs hw1
  refine (bclone_any A n c bs _ HS1.out hn).mono ?_
  rintro e w2 ⟨A2, c2, rfl, ho, hc2, hb2⟩
  have hbn : bs.length = n := by have := HS.out.len; simpa using this
  have HO2 := Lib.hid ho
  have HC2 := Lib.hid hc2
  have HE2 := Lib.hid (HE1.out.grow hb2)
  have HG2 := Lib.hid (HG1.out.grow' hb2)
  have HZ2 := Lib.hid (show ge + 1 ≤ w2.heap.size by have := hb2.size; have := HZ1.out; omega)
  clear ho hc2 hb2 HE1 HG1 HS1
  have go1 : ∀ (R : Ending → World → Prop) (w3 : World) (g : Nat), g = w2.heap.size → w3 = w2.alloc (.cells #[.slice A2 n c2] 71) →
      (∀ e w4, (Q w4 ∧ w3.heap.size ≤ w4.heap.size ∧ Blk w4 ge 29 [.int .i64 0] ∧ ((∃ x, res = .error x ∧ e = .panicked (brk x)) ∨ (∃ l', res = .ok l' ∧ e = .returned (.tuple #[]) ∧ EyeAt w4 (ge + 1) w3.heap.size g l'))) → R e w4) → Calls Try.prog F (#[.pointer (some ⟨g, 0, none⟩)] ++ cap) w3 R := by
    intro R w3 g hg hw3 hR
    obtain ⟨hX, hb, hs⟩ := alloc_eq hw3.symm
    have hE : EyeAt w3 (w.heap.size + 1) w3.heap.size g bs := by
      refine ⟨A2, c2, by rw [hbn, hg]; exact hX, by rw [hbn]; exact ((Sl.of_own HO2.out).below hb).more hb.size, by rw [hbn]; exact HC2.out, ?_, by omega, Nat.le_refl _, fun b hA => ?_⟩
      · have := HZ2.out; have := HGE.out; omega
      · have h1 := own_from HO2.out b hA
        have h2 := own_lt HO2.out b hA
        have := HZ1.out; have := HGE.out
        exact ⟨by omega, by omega⟩
    refine (HDO.out w3 _ g (HG2.out.grow' hb) (by have := HZ2.out; have := HGE.out; omega) hE).mono ?_
    rintro e w4 ⟨hQ, hsz, hk, hr⟩
    refine hR e w4 ⟨hQ, hsz, ?_, ?_⟩
    · unfold Blk
      rw [← HGE.out] at hk
      rw [hk]; exact HE2.out.grow hb
    · rw [← HGE.out] at hr; exact hr
  have GO := Lib.hid go1
  clear go1
  go_wp2_with fail
  refine GO.out _ _ _ rfl rfl ?_
  rintro e w4 ⟨hQ, hsz, hb4, ⟨x, hx, rfl⟩ | ⟨l', hl, rfl, hE⟩⟩
  · have HQ := Lib.hid hQ; have HB4 := Lib.hid hb4
    have HX := Lib.hid hx
    have HZ4 := Lib.hid (show ge < w4.heap.size from hb4.lt)
    clear hQ hb4 hsz hx
    go_wp2_with fail
    refine leaves_cons (f := 24) (args := #[.pointer (some ⟨ge, 0, none⟩)]) (by first | simp | decide) (by first | rfl | simp [go_sem]) ?_
    refine (catch_panicking ge x _ ⟨_, HB4.out⟩).mono ?_
    rintro e u' w5 ⟨rfl, rfl, hb5, hg5⟩
    have c5 := hb5.at_ (i := 0) rfl
    have hfin : eyeErr res = x := by rw [HX.out]; rfl
    simp only [Leaves, settle, List.dropWhile]
    refine ⟨_, door_cell c5, ?_, w4, HQ.out, ?_⟩
    · rw [hfin]
    · rw [← HGE.out]; exact hg5
  · have HQ := Lib.hid hQ; have HB4 := Lib.hid hb4; have HL := Lib.hid hl; have HE := Lib.hid hE
    clear hQ hb4 hsz hl hE
    go_wp2_with fail
    refine (eleft_any _ HE.out).mono ?_
    rintro e w5 ⟨rfl, rfl⟩
    have c0 := HB4.out.at_ (i := 0) rfl
    have f0 := HB4.out.frozen 0
    cases l' with
    | nil =>
      have d0 : decide ((0 : Int) < (([] : List UInt8).length : Int)) = false := rfl
      go_wp2_with fail
      refine leaves_cons (f := 24) (args := #[.pointer (some ⟨ge, 0, none⟩)]) (by simp) (by simp [go_sem]) ?_
      refine (catch_idle ge _).mono ?_
      rintro e u' w5 ⟨rfl, rfl, rfl⟩
      have hfin : eyeErr res = 0 := by rw [HL.out]; rfl
      simp only [Leaves, settle]
      refine ⟨_, door_cell (World.cell?_setCell_same _ _ _ c0), ?_, w4, HQ.out, by rw [← HGE.out]; exact grown_set w4 ge 0 _⟩
      first | (rw [hfin]; rfl) | rw [hfin]
    | cons y l2 =>
      have d0 : decide ((0 : Int) < ((y :: l2).length : Int)) = true := by rw [decide_eq_true_eq, List.length_cons]; omega
      go_wp2_with fail
      refine leaves_cons (f := 24) (args := #[.pointer (some ⟨ge, 0, none⟩)]) (by simp) (by simp [go_sem]) ?_
      refine (catch_idle ge _).mono ?_
      rintro e u' w5 ⟨rfl, rfl, rfl⟩
      have hfin : eyeErr res = 3 := by rw [HL.out]; rfl
      simp only [Leaves, settle]
      refine ⟨_, door_cell (World.cell?_setCell_same _ _ _ c0), ?_, w4, HQ.out, by rw [← HGE.out]; exact grown_set w4 ge 0 _⟩
      first | (rw [hfin]; rfl) | rw [hfin]
end Go.Proofs.Ytphmefhnffoafaa

/- The contract of tx.Read. -/
namespace Go.Proofs.Ytphmefhnffoafaa
open Go.RowKit Go.Shelf
set_option linter.unusedVariables false
theorem TGot.base {w : World} {Z Z2 n c n2 c2 : Nat} {A A2 : Option Addr} {t : Txn} (h : TGot w Z A n c A2 n2 c2 t) (hz : Z2 ≤ Z) : TGot w Z2 A n c A2 n2 c2 t := by
  obtain ⟨⟨l, e, h1⟩, h2⟩ := h
  exact ⟨⟨l, e, h1.base hz⟩, h2.base hz⟩
/-- What the closure leaves. -/
def TKept (g4 : Nat) (w w2 : World) (l : List UInt8) : Prop := w.grownBy w2 (some g4) ∧ ∀ t l', lookT l = .ok (t, l') → ∃ A n c A2 n2 c2, Blk w2 g4 28 (txV A n c A2 n2 c2 t.fee t.expiry) ∧ TGot w2 (w.heap.size + 1) A n c A2 n2 c2 t
set_option maxRecDepth 100000 in
set_option maxHeartbeats 4000000 in
theorem tread1_any {Bd g g4 : Nat} {l : List UInt8} (w w1 : World) (hg4 : g4 < w.heap.size) (hb : Blk w g4 28 (txV none 0 0 none 0 0 0 0)) (hw : Grow w w1) (hg : w.heap.size ≤ g) (he : EyeAt w1 (w.heap.size + 1) Bd g l) :
    Calls Try.prog 11 (#[.pointer (some ⟨g, 0, none⟩)] ++ #[.pointer (some ⟨g4, 0, none⟩)]) w1 fun e w2 => TKept g4 w w2 l ∧ w1.heap.size ≤ w2.heap.size ∧ w2.heap[w.heap.size]? = w1.heap[w.heap.size]? ∧
      ((∃ x, restOf (lookT l) = .error x ∧ e = .panicked (brk x)) ∨ (∃ l', restOf (lookT l) = .ok l' ∧ e = .returned (.tuple #[]) ∧ EyeAt w2 (w.heap.size + 1) Bd g l')) := by
  have HW := Lib.hid hw
  have HE := Lib.hid he
  have HV := Lib.hid (hb.grow hw)
  have hgl := he.lo
  have hlt := he.lt
  have HGG := Lib.hid (show g ≠ w.heap.size ∧ g4 ≠ g ∧ g4 ≠ w.heap.size ∧ w.heap.size ≤ g ∧ g4 < w.heap.size + 1 by omega)
  have HLT := Lib.hid (show w.heap.size < w1.heap.size by omega)
  clear hb hw he hgl hlt hg hg4
  show Calls _ _ #[_, _] _ _
  go_enter Try.func11, Try.ntmps11
  go_wp2_with fail
  refine (tlook_any _ HE.out).mono ?_
  rintro e w2 ⟨hg2, ⟨x, hx, rfl⟩ | ⟨t, l', A, n, c, A2, n2, c2, hx, rfl, hT, hE⟩⟩
  · have HG2 := Lib.hid hg2
    have HX := Lib.hid hx
    clear hg2 hx
    go_wp2_with fail
    refine ⟨by first | trivial | rfl, ⟨?_, fun t l' e2 => by rw [HX.out] at e2; cases e2⟩, HG2.out.size, ?_, .inl ⟨x, by rw [HX.out]; rfl, rfl⟩⟩
    · exact grownBy_new (grown_of_below HW.out _) (grownBy_trans (grownBy_refl _ _) HG2.out) HGG.out.2.2.2.1
    · exact HG2.out.block _ HLT.out (fun e => HGG.out.1 (Option.some.inj e).symm)
  · have HX := Lib.hid hx
    have HV2 := Lib.hid (HV.out.grown hg2 (fun e => HGG.out.2.1 (Option.some.inj e)))
    have HG2 := Lib.hid hg2
    have HE2 := Lib.hid hE
    have HT := Lib.hid hT
    have HC := Lib.hid (txV_cl (A := A) (n := n) (c := c) (A2 := A2) (n2 := n2) (c2 := c2) (fee := t.fee) (ex := t.expiry))
    obtain ⟨hv, hhv⟩ : ∃ q, q = txV A n c A2 n2 c2 t.fee t.expiry := ⟨_, rfl⟩
    have HHV := Lib.hid hhv
    rw [← hhv] at HC ⊢
    clear hg2 hx hE hhv hT HV HE
    go_wp2_with (first | (with_reducible refine wpl_storeb (o := ⟨none, .store _ _ _, _, _, _, _⟩) rfl rfl row_tx HV2.out rfl rfl len_tx HC.out.len HC.out.one ?_))
    intro w3 hb3 hg3 hs3
    have HB3 := Lib.hid hb3
    have HG3 := Lib.hid hg3
    clear hb3 hg3 hs3
    go_wp2_with fail
    refine bodyPost_end (results_none rfl _ _ _) rfl ?_
    refine ⟨⟨?_, fun t2 l2 e2 => ?_⟩, Nat.le_trans HG2.out.size HG3.out.size, ?_, .inr ⟨l', by rw [HX.out]; rfl, rfl, HE2.out.off HG3.out (.inl HGG.out.2.2.2.2)⟩⟩
    · exact grownBy_trans (grownBy_new (grown_of_below HW.out _) HG2.out HGG.out.2.2.2.1) HG3.out
    · rw [HX.out] at e2
      injection e2 with e2
      injection e2 with e3 e4
      subst e3
      exact ⟨A, n, c, A2, n2, c2, by rw [← HHV.out]; exact HB3.out, (HT.out.keep (fun b hb hlt => HG3.out.block b hlt (fun e => by injection e with e; have := HGG.out; have := HLT.out; omega))).base HLT.out⟩
    · rw [HG3.out.block _ (Nat.lt_of_lt_of_le HLT.out HG2.out.size) (fun e => HGG.out.2.2.1 (Option.some.inj e).symm), HG2.out.block _ HLT.out (fun e => HGG.out.1 (Option.some.inj e).symm)]
/-- A transaction that was read, and its error. -/
def TRead (w w' : World) (l : List UInt8) (e : Ending) : Prop := ∃ A n c A2 n2 c2, ∃ ls : List (Value × Inp), e = .returned (.tuple #[.agg (txV A n c A2 n2 c2 (txnOf (readT l)).fee (txnOf (readT l)).expiry).toArray, .int .i64 (errOf (readT l) : Int)]) ∧
  InsAt w' A n c ls ∧ ls.map Prod.snd = (txnOf (readT l)).ins ∧ OutsAt w' A2 n2 c2 (txnOf (readT l)).outs ∧ Below w.heap.size w w'
set_option maxRecDepth 100000 in
set_option maxHeartbeats 4000000 in
theorem tread_any {A : Option Addr} {n c : Nat} {l : List UInt8} (w : World) (hs : Sl w w.heap.size 1 A n (l.map B)) (hn : n ≤ 1000000) : Calls Try.prog 5 #[.slice A n c] w fun e w' => TRead w w' l e := by
  have HS := Lib.hid hs
  have HCZ := Lib.hid (txV_cl (A := none) (n := 0) (c := 0) (A2 := none) (n2 := 0) (c2 := 0) (fee := 0) (ex := 0))
  have T0 := Lib.hid bt_tx0
  have ZT := Lib.hid zero_tx
  obtain ⟨zt, hzt⟩ : ∃ q, q = txV none 0 0 none 0 0 0 0 := ⟨_, rfl⟩
  have HZT := Lib.hid hzt
  rw [← hzt] at HCZ T0 ZT
  clear hzt
  have HERR := Lib.hid (fun (w' : World) (er : Nat) (h0 : er ≠ 0) (h1 : readT l = .error er) (hb : Below w.heap.size w w') => show TRead w w' l (.returned (.tuple #[.agg zt.toArray, .int .i64 (er : Int)])) from
    ⟨none, 0, 0, none, 0, 0, [], by rw [h1, HZT.out]; rfl, insAt_nil, by rw [h1]; rfl, by rw [h1]; exact outsAt_nil, hb⟩)
  obtain ⟨w_, hw⟩ : ∃ x, x = w := ⟨_, rfl⟩
  have HB := Lib.hid (show Below w.heap.size w w_ by rw [hw]; exact Below.refl _ _)
  suffices H : Calls Try.prog 5 #[.slice A n c] w_ fun e w' => TRead w w' l e by rw [hw] at H; exact H
  clear hw hs
  go_enter Try.func5, Try.ntmps5
  go_wp2_with (first | (with_reducible refine wpl_alloc (o := ⟨some 2, _, _, _, _, _⟩) rfl rfl ZT.out ?_))
  intro w2_ hb2_ hb_ hsz2_
  have HV := Lib.hid (at_mk hb2_ HCZ.out.len)
  have HVG := Lib.hid HB.out.size
  generalize hg_ : w_.heap.size = g2 at HV HVG ⊢
  clear hb2_ hsz2_ hg_
  have hb_ := hb_
  clear hb_
  have HB_ := Lib.hid (HB.out.grow' hb_)
  clear HB
  have HB := HB_
  clear HB_
  clear hb_
  try clear w_
  rename World => w_
  go_wp2_with (first | (with_reducible refine wpl_alloc (o := ⟨some 4, _, _, _, _, _⟩) rfl rfl ZT.out ?_))
  intro w2_ hb2_ hb_ hsz2_
  have HH := Lib.hid (at_mk hb2_ HCZ.out.len)
  have HLT := Lib.hid HV.out.lt
  generalize hg_ : w_.heap.size = g4 at HH HLT ⊢
  clear hb2_ hsz2_ hg_
  have hb_ := hb_
  clear hb_
  have HB_ := Lib.hid (HB.out.grow' hb_)
  clear HB
  have HB := HB_
  clear HB_
  have HV_ := Lib.hid (HV.out.grow hb_)
  clear HV
  have HV := HV_
  clear HV_
  clear hb_
  try clear w_
  rename World => w_
  go_wp2_with fail
  refine (fread2_any A n c l 11 #[.pointer (some ⟨g4, 0, none⟩)] (restOf (lookT l)) (fun w2 => TKept g4 w_ w2 l) _ (HS.out.grow HB.out) hn (fun _ _ => rfl) (fun w1 Bd g hw hg he => tread1_any w_ w1 HH.out.lt (by rw [← HZT.out]; exact HH.out.blk) hw hg he)).mono ?_
  rintro e w5_ ⟨rfl, w2_, ⟨hk, hgot⟩, hgr⟩
  have HV_ := Lib.hid (show At w5_ g2 28 4 zt from ⟨(hgr.block g2 (Nat.lt_of_lt_of_le HV.out.lt hk.size) (fun e => by injection e with e; have := HV.out.lt; omega)).trans (Blk.grown HV.out.blk hk (fun e => by injection e with e; have := HLT.out; omega)), HV.out.len⟩)
  have HB_ := Lib.hid (show Below w.heap.size w w5_ from put_below (put_below HB.out (by have := HVG.out; have := HLT.out; omega) hk) HB.out.size hgr)
  have HGOT := Lib.hid (show ∀ t l', lookT l = .ok (t, l') → ∃ A n c A2 n2 c2, Blk w5_ g4 28 (txV A n c A2 n2 c2 t.fee t.expiry) ∧ TGot w5_ (w_.heap.size + 1) A n c A2 n2 c2 t from fun t l' h => by
    obtain ⟨A1, n1, c1, A2, n2, c2, h1, h2⟩ := hgot t l' h
    exact ⟨A1, n1, c1, A2, n2, c2, h1.grown hgr (fun e => by injection e with e; have := HH.out.lt; omega), h2.keep (fun b hb hlt => hgr.block b hlt (fun e => by injection e with e; omega))⟩)
  have HG2Z := Lib.hid (show g2 < w_.heap.size + 1 by have := HV.out.lt; omega)
  generalize w_.heap.size + 1 = Z at HGOT HG2Z
  clear hk hgot hgr HV HB HH
  have HV := HV_; have HB := HB_
  clear HV_ HB_
  try clear w2_
  try clear w_
  rename World => w_
  rcases readT_cases l with ⟨er, her, her0, hrd⟩ | ⟨t, her, hlk, hrd⟩
  · rw [her]
    have HRD := Lib.hid hrd
    have H0 := Lib.hid her0
    have d0 : ((er : Int) == 0) = false := by simp; omega
    have d1 : ((er : Int) != 0) = true := by simp; omega
    clear her her0 hrd HGOT
    go_wp2_with (first | (with_reducible refine wpl_stop (o := ⟨some 15, _, _, _, _, _⟩) ?_))
    refine stop_go ?_
    refine wpl_build rfl rfl T0.out ?_
    go_wp2_with (first | (with_reducible refine wpl_storeb (o := ⟨none, .store _ _ _, _, _, _, _⟩) rfl rfl row_tx HV.out.blk rfl rfl HV.out.len HCZ.out.len HCZ.out.one ?_))
    intro w2_ hb2_ hg2_ hsz2_
    have HV_ := Lib.hid hb2_
    have HB_ := Lib.hid (put_below HB.out HVG.out hg2_)
    clear hb2_ hg2_ hsz2_
    go_wp2_with fail
    refine ret_cell_tmp rfl row_tx HV_.out rfl HCZ.out.len rfl rfl ?_
    exact HERR.out _ er H0.out HRD.out HB_.out
  · rw [her]
    obtain ⟨A1, n1, c1, A2, n2, c2, k1, k2⟩ := HGOT.out t [] hlk
    have hok := lookT_ok hlk
    have HTO := Lib.hid hok.1
    have HRD := Lib.hid hrd
    have HH := Lib.hid k1
    obtain ⟨⟨ls, hls, hi⟩, ho⟩ := k2
    have HLS := Lib.hid hls
    have HI := Lib.hid hi; have HO := Lib.hid ho
    have HNI := Lib.hid (show n1 ≤ 16 by rw [← hi.2.2]; have := congrArg List.length hls; rw [List.length_map] at this; omega)
    have HNO := Lib.hid (show n2 ≤ 16 by rw [← ho.2.2]; omega)
    have HTC := Lib.hid (txV_cl (A := A1) (n := n1) (c := c1) (A2 := A2) (n2 := n2) (c2 := c2) (fee := t.fee) (ex := t.expiry))
    have HCK := Lib.hid (tcheck_any (l := ls) (os := t.outs) (fee := t.fee) (ex := t.expiry) w_ hi.at_ ho.at_ (by have := HNI.out; omega) (by have := HNO.out; omega) hok.1.2.2.1 hok.1.2.2.2)
    have hte : (⟨ls.map Prod.snd, t.outs, t.fee, t.expiry⟩ : Txn) = t := by rw [hls]
    rw [hte] at HCK
    have HCP := Lib.hid (checkT_pos hok.1)
    obtain ⟨ck, hck⟩ : ∃ q, q = checkT t := ⟨_, rfl⟩
    have HCE := Lib.hid hck
    rw [← hck] at HCK HCP
    obtain ⟨tv, htv⟩ : ∃ q, q = txV A1 n1 c1 A2 n2 c2 t.fee t.expiry := ⟨_, rfl⟩
    have HTV := Lib.hid htv
    rw [← htv] at HH HTC HCK
    clear hlk hrd her hok hls hi ho k1 HGOT hte hck htv
    go_wp2_with (first | (with_reducible refine wpl_loadb (o := ⟨some 11, _, _, _, _, _⟩) rfl rfl row_tx HH.out rfl HTC.out.len ?_))
    refine HCK.out.mono ?_
    rintro e w2_ ⟨rfl, hb_⟩
    have HI_ := Lib.hid (InsO.keep HI.out (fun b _ hlt => hb_.block b hlt)); have HO_ := Lib.hid (OutsO.keep HO.out (fun b _ hlt => hb_.block b hlt)); have HH_ := Lib.hid (HH.out.grow hb_)
    clear HI HO HH HCK
    have HI := HI_; have HO := HO_; have HH := HH_
    clear HI_ HO_ HH_
    have hb_ := hb_
    clear hb_
    have HB_ := Lib.hid (HB.out.grow' hb_)
    clear HB
    have HB := HB_
    clear HB_
    have HV_ := Lib.hid (HV.out.grow hb_)
    clear HV
    have HV := HV_
    clear HV_
    clear hb_
    try clear w_
    rename World => w_
    by_cases h0 : ck = 0
    · subst h0
      have HRD2 := Lib.hid (show readT l = .ok t by have h := HRD.out; rw [← HCE.out] at h; simpa using h)
      go_wp2_with (first | (with_reducible refine wpl_loadb (o := ⟨some 17, _, _, _, _, _⟩) rfl rfl row_tx HH.out rfl HTC.out.len ?_) | (with_reducible refine wpl_storeb (o := ⟨none, .store _ _ _, _, _, _, _⟩) rfl rfl row_tx HV.out.blk rfl rfl HV.out.len HTC.out.len HTC.out.one ?_))
      intro w2_ hb2_ hg2_ hsz2_
      have HV_ := Lib.hid hb2_
      have HB_ := Lib.hid (put_below HB.out HVG.out hg2_)
      have HI_ := Lib.hid (InsO.keep HI.out (fun b hb hlt => hg2_.block b hlt (fun e => by injection e with e; have := HG2Z.out; omega))); have HO_ := Lib.hid (OutsO.keep HO.out (fun b hb hlt => hg2_.block b hlt (fun e => by injection e with e; have := HG2Z.out; omega)))
      clear hb2_ hg2_ hsz2_
      go_wp2_with fail
      refine ret_cell_tmp rfl row_tx HV_.out rfl HTC.out.len rfl rfl ?_
      exact ⟨A1, n1, c1, A2, n2, c2, ls, by rw [HRD2.out, HTV.out]; rfl, HI_.out.at_, by rw [HRD2.out]; exact HLS.out, by rw [HRD2.out]; exact HO_.out.at_, HB_.out⟩
    · have d1 : (ck != 0) = true := by simpa using h0
      have HCN := Lib.hid (show ((checkT t).toNat : Int) = ck ∧ (checkT t).toNat ≠ 0 by have := HCP.out; rw [← HCE.out]; omega)
      have HRD2 := Lib.hid (show readT l = .error (checkT t).toNat by have h := HRD.out; rw [if_pos (by rw [← HCE.out]; exact h0)] at h; exact h)
      clear h0
      go_wp2_with (first | (with_reducible refine wpl_stop (o := ⟨some 15, _, _, _, _, _⟩) ?_))
      refine stop_go ?_
      refine wpl_build rfl rfl T0.out ?_
      go_wp2_with (first | (with_reducible refine wpl_storeb (o := ⟨none, .store _ _ _, _, _, _, _⟩) rfl rfl row_tx HV.out.blk rfl rfl HV.out.len HCZ.out.len HCZ.out.one ?_))
      intro w2_ hb2_ hg2_ hsz2_
      have HV_ := Lib.hid hb2_
      have HB_ := Lib.hid (put_below HB.out HVG.out hg2_)
      clear hb2_ hg2_ hsz2_
      go_wp2_with fail
      refine ret_cell_tmp rfl row_tx HV_.out rfl HCZ.out.len rfl rfl ?_
      rw [← HCN.out.1]
      exact HERR.out _ _ HCN.out.2 HRD2.out HB_.out
end Go.Proofs.Ytphmefhnffoafaa

/- Contracts of layer 6: tag.Of, tag.Is. -/
namespace Go.Proofs.Ytphmefhnffoafaa
open Go.RowKit Go.Shelf
set_option linter.unusedVariables false

end Go.Proofs.Ytphmefhnffoafaa

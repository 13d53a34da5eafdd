/- The contract of tx.Put; its row is its own. Turned out of XTxI. -/
import Derived.Test.YtobmldegjajocaaCommandRateT19
import Derived.Test.YtobmldegjajocaaCommandRateT4
import Derived.Test.YtobmldegjajocaaCommandRateT28
import Derived.Test.YtobmldegjajocaaCommandRateT21
import Derived.Test.YtobmldegjajocaaCommandRateT13
set_option linter.unusedSimpArgs false
/- The contract of tx.Put; its row is its own. Turned out of XTxI. -/
namespace Go.Proofs.Ytobmldegjajocaa
open Go.RowKit Go.Shelf
set_option linter.unusedVariables false
set_option maxRecDepth 100000 in
set_option maxHeartbeats 8000000 in
theorem tputo_any {A : Option Addr} {n c : Nat} {A2 : Option Addr} {n2 c2 : Nat} {fee ex : Int} {l : List (Value × Inp)} {os : List Outp} (w : World) (hi : InsAt w A n c l) (ho : OutsAt w A2 n2 c2 os) (hn : n ≤ 100000) (hn2 : n2 ≤ 100000) (hf : U64 fee) (hex : I64 ex) :
    Calls Try.prog 25 #[.agg (txV A n c A2 n2 c2 fee ex).toArray] w fun e w' => ∃ A' c', e = .returned (.tuple #[.slice A' (tformB ⟨l.map Prod.snd, os, fee, ex⟩).length c', .int .i64 (checkT ⟨l.map Prod.snd, os, fee, ex⟩)]) ∧ OwnAt w' w.heap.size A' (tformB ⟨l.map Prod.snd, os, fee, ex⟩).length c' ((tformB ⟨l.map Prod.snd, os, fee, ex⟩).map B) ∧ (tformB ⟨l.map Prod.snd, os, fee, ex⟩).length ≤ c' ∧ Grow w w' := by
  have HI := Lib.hid hi; have HO := Lib.hid ho
  have HTC := Lib.hid (txV_cl (A := A) (n := n) (c := c) (A2 := A2) (n2 := n2) (c2 := c2) (fee := fee) (ex := ex))
  have HT0 := Lib.hid (show (txV A n c A2 n2 c2 fee ex)[0]? = some (.slice A n c) from rfl)
  have HT1 := Lib.hid (show (txV A n c A2 n2 c2 fee ex)[1]? = some (.slice A2 n2 c2) from rfl)
  have HT2 := Lib.hid (show (txV A n c A2 n2 c2 fee ex)[2]? = some (.int .u64 fee) from rfl)
  have HT3 := Lib.hid (show (txV A n c A2 n2 c2 fee ex)[3]? = some (.int .i64 ex) from rfl)
  have HCK := Lib.hid (fun w hi ho => tcheck_any (A := A) (n := n) (c := c) (A2 := A2) (n2 := n2) (c2 := c2) (fee := fee) (ex := ex) (l := l) (os := os) w hi ho hn hn2 hf hex)
  have HF := Lib.hid hf; have HEX := Lib.hid hex
  obtain ⟨t, ht⟩ : ∃ t, t = Txn.mk (l.map Prod.snd) os fee ex := ⟨_, rfl⟩
  rw [← ht] at HCK ⊢
  have HTE := Lib.hid ht
  obtain ⟨ck, hck⟩ : ∃ q, q = checkT t := ⟨_, rfl⟩
  have HCE := Lib.hid hck
  rw [← hck] at HCK ⊢
  obtain ⟨tf, htf⟩ : ∃ q, q = tformB t := ⟨_, rfl⟩
  rw [← htf]
  have HFN := Lib.hid (show ck ≠ 0 → tf = [] from fun h => by rw [htf]; unfold tformB; rw [if_neg (by rw [← hck]; exact h)])
  have HFY := Lib.hid (show ck = 0 → tf = putTB t from fun h => by rw [htf]; unfold tformB; rw [if_pos (by rw [← hck]; exact h)])
  have HSH := Lib.hid (show ck = 0 → (1 ≤ n ∧ n ≤ 16 ∧ 1 ≤ n2 ∧ n2 ≤ 16 ∧ 0 ≤ ex ∧ ex ≤ 1099511627776) ∧ ∀ p ∈ l, p.2.secret.length ≤ 64 ∧ 0 ≤ p.2.index ∧ p.2.index ≤ 15 from fun h => by
    obtain ⟨h1, h2⟩ := short_of (t := t) (by rw [← hck]; exact h)
    unfold shortT at h1
    rw [ht] at h1 h2
    simp only [Bool.and_eq_true, inB_iff, List.length_map] at h1
    have a := hi.2.2.1; have b := ho.2.2.1
    exact ⟨by omega, fun p hp => h2 _ (List.mem_map_of_mem hp)⟩)
  obtain ⟨tv, htv⟩ : ∃ q, q = txV A n c A2 n2 c2 fee ex := ⟨_, rfl⟩
  rw [← htv] at HTC HT0 HT1 HT2 HT3 HCK ⊢
  obtain ⟨w_, hw⟩ : ∃ x, x = w := ⟨_, rfl⟩
  have HB := Lib.hid (show Below w.heap.size w w_ by rw [hw]; exact Below.refl _ _)
  suffices H : Calls Try.prog 25 #[.agg tv.toArray] w_ fun e w' => ∃ A' c', e = .returned (.tuple #[.slice A' tf.length c', .int .i64 ck]) ∧ OwnAt w' w.heap.size A' tf.length c' (tf.map B) ∧ tf.length ≤ c' ∧ Grow w w' by rw [hw] at H; exact H
  clear hw hi ho ht hck htf htv hf hex
  go_enter Try.func25, Try.ntmps25
  go_wp2_with (first | (with_reducible refine wpl_box (o := ⟨some 1, _, _, _, _, _⟩) rfl rfl rfl ?_))
  intro w2_ hb2_ hb_ hsz2_
  have HX_ := Lib.hid (at_mk hb2_ HTC.out.len)
  clear hb2_ hsz2_
  have HG_ := Lib.hid HB.out.size
  have HB_ := Lib.hid (HB.out.grow' hb_)
  clear HB
  have HB := HB_
  clear HB_
  generalize hg_ : w_.heap.size = g1 at HX_ HG_ ⊢
  clear hg_
  have HX_g := HG_
  clear HG_
  have HX := HX_
  clear hb_ HX_
  try clear w_
  rename World => w_
  go_wp2_with (first | (with_reducible refine wpl_loadb (o := ⟨some 10, _, _, _, _, _⟩) rfl rfl row_tx HX.out.blk rfl HX.out.len ?_))
  refine (HCK.out _ (HI.out.grow HB.out) (HO.out.grow HB.out)).mono ?_
  rintro e w_ ⟨rfl, hb_⟩
  have HB_ := Lib.hid (HB.out.grow' hb_)
  clear HB
  have HB := HB_
  clear HB_
  have HX_ := Lib.hid (HX.out.grow hb_)
  clear HX
  have HX := HX_
  clear HX_
  clear hb_
  by_cases h0 : ck = 0
  · obtain ⟨hsh, hel⟩ := HSH.out h0
    have HEL := Lib.hid hel
    have HSHT := Lib.hid hsh
    have hn16 : n ≤ 16 := hsh.2.1
    have hm16 : n2 ≤ 16 := hsh.2.2.2.1
    obtain ⟨fn, hfn⟩ : ∃ q : Nat, fee = (q : Int) := ⟨fee.toNat, (Int.toNat_of_nonneg HF.out.1).symm⟩
    obtain ⟨en, hen⟩ : ∃ q : Nat, ex = (q : Int) := ⟨ex.toNat, (Int.toNat_of_nonneg hsh.2.2.2.2.1).symm⟩
    have HFU := Lib.hid (show fn ≤ 18446744073709551615 by have := HF.out.2; rw [hfn] at this; omega)
    have HEU := Lib.hid (show en ≤ 1099511627776 by have := hsh.2.2.2.2.2; rw [hen] at this; omega)
    have HPT := Lib.hid (show tf = numB n ++ (l.map Prod.snd).flatMap putI ++ numB n2 ++ os.flatMap putO ++ numB fn ++ numB en by
      rw [HFY.out h0, HTE.out]; unfold putTB; simp only [hfn, hen, Int.toNat_natCast, List.length_map]; rw [HI.out.2.2.1, HO.out.2.2.1])
    have HPI := Lib.hid (show ∀ x ∈ l.map Prod.snd, (putI x).length ≤ 130 from fun x hx => by
      obtain ⟨p, hp, rfl⟩ := List.mem_map.1 hx
      exact putI_len (HI.out.2.1 p hp).2 (hel p hp).1 (hel p hp).2)
    have HPO := Lib.hid (show ∀ x ∈ os, (putO x).length ≤ 50 from fun x hx => putO_len (HO.out.2.1 x hx))
    rw [hfn] at HT2
    rw [hen] at HT3
    clear hsh hel hfn hen
    subst h0
    go_wp2_with (first | (with_reducible refine wpl_alloc (o := ⟨some 5, _, _, _, _, _⟩) rfl rfl zero_pen ?_))
    intro w4 hb4 hbw4 hsz4
    obtain ⟨gp, hgp⟩ : ∃ q, q = w_.heap.size := ⟨_, rfl⟩
    have HG1 := Lib.hid (show g1 < gp ∧ w.heap.size ≤ gp by have h1 := HX.out.lt; have h2 := HB.out.size; omega)
    have HX4 := Lib.hid (HX.out.grow hbw4)
    have HB4 := Lib.hid (HB.out.grow' hbw4)
    rw [← hgp] at hb4 hsz4 ⊢
    have HP := Lib.hid (show PenAt w4 (K0 gp) gp [] from PenAt.new hb4 (fun k hk => by unfold K0 at hk; omega))
    have HKB := Lib.hid (show KB gp w4 w4 from ⟨Below.refl _ _, by omega⟩)
    have HXB := Lib.hid (show ∀ w', KB gp w4 w' → At w' g1 26 4 tv from fun w' h => ⟨HX4.out.blk.below h.1 HG1.out.1, HX4.out.len⟩)
    have HBB := Lib.hid (show ∀ w', KB gp w4 w' → Below w.heap.size w w' from fun w' h => HB4.out.trans (h.1.mono HG1.out.2))
    have HKP := Lib.hid (show ∀ (w' : World) (xs : List UInt8), KB gp w4 w' → PenAt w' (K0 gp) gp xs → PenAt w' (Kq gp g1) gp xs from fun w' xs h hp => hp.plus (HXB.out _ h).blk (by decide) (by have := HG1.out.1; omega))
    clear hb4 hbw4 hsz4 hgp HX HB HX4
    have qn := conv_u64' (n := n) (by omega)
    have c0 := (HXB.out _ HKB.out).blk.at_ HT0.out
    go_wp2_with fail
    refine (num_any gp n (Kq gp g1) [] _ (HKP.out _ _ HKB.out HP.out) (by simp) (by omega)).mono ?_
    rintro e w2_ ⟨rfl, hp_, hk_⟩
    have HP_ := Lib.hid hp_.minus
    have HKB_ := Lib.hid (HKB.out.kept hk_)
    clear hp_ hk_ HP HKB
    have HP := HP_; have HKB := HKB_
    clear HP_ HKB_
    try clear w_
    rename World => w_
    have HP_ := Lib.hid (show PenAt w_ (K0 gp) gp (numB n) from HP.out)
    clear HP c0 qn
    have HP := HP_
    clear HP_
    have ln := numB_le (n := n) (by omega); have lm := numB_le (n := n2) (by omega)
    have c0 := (HXB.out _ HKB.out).blk.at_ HT0.out
    obtain ⟨pre, hpre⟩ : ∃ q, q = numB n := ⟨_, rfl⟩
    have HPR := Lib.hid hpre
    have hprl : pre.length ≤ 9 := by rw [hpre]; exact ln
    rw [← hpre] at HP HPT
    clear hpre ln
    obtain ⟨ins, hins⟩ : ∃ q, q = l.map Prod.snd := ⟨_, rfl⟩
    have HINS := Lib.hid hins
    have HINL := Lib.hid (show ins.length = n by rw [hins, List.length_map]; exact HI.out.2.2.1)
    rw [← hins] at HPT HPI
    clear hins
    go_upto_block 0 with fail
    go_cut [] from 10 (fun wr => Hid (PenAt wr (K0 gp) gp (pre ++ ins.flatMap putI) ∧ KB gp w4 wr))
    case first =>
      go_wp2_with fail
      go_loopw [23] (fun iv wr => ∃ k : Nat, k ≤ n ∧ iv = .int .i64 k ∧ Hid (PenAt wr (K0 gp) gp (pre ++ (ins.take k).flatMap putI) ∧ KB gp w4 wr)) (fun iv _ => n - (intOf iv).toNat)
      case atStart => exact ⟨0, by omega, rfl, Lib.hid ⟨by simpa using HP.out, HKB.out⟩⟩
      case round =>
        obtain ⟨k, hk, rfl, hI⟩ := hrel
        clear HP HKB c0
        have HP := Lib.hid hI.out.1; have HKB := Lib.hid hI.out.2
        clear hI
        rename World => w_
        by_cases hlt : k < n
        · obtain ⟨b, off, p, hA, hp, hok, hc⟩ := HI.out.at_ hlt
          subst hA
          have HBW := Lib.hid (HBB.out _ HKB.out)
          obtain ⟨hsl, hix0, hix1⟩ := HEL.out p (List.mem_of_getElem? hp)
          have HC := Lib.hid (show ∀ j u, (inV p.1 p.2)[j]? = some u → w_.cell? ⟨b, off + k * 35 + j, none⟩ = some u from fun j u hu => bcell HBW.out (hc j u hu))
          have HPC := Lib.hid (inV_cl hok)
          have HSN := Lib.hid (fm_snoc putI (l := ins) (k := k) (p := p.2) (by rw [HINS.out, List.getElem?_map, hp]; rfl))
          obtain ⟨⟨A4, c4, e4, hc4, hs4⟩, hio⟩ := hok
          have HS4 := Lib.hid hs4
          have HFL := Lib.hid (fm_le putI 130 k HPI.out)
          have HA32 := Lib.hid (in_at (v := p.1) hio)
          have HDG := Lib.hid (dig_map hio.1)
          have HTX := Lib.hid (show ∀ (j : Nat) (u : Value), (p.2.tx.map B)[j]? = some u → (inV p.1 p.2)[0 + j]? = some u from fun j u hu => by
            rw [Nat.zero_add]; unfold inV; rw [List.getElem?_append_left (List.getElem?_eq_some_iff.1 hu).1]; exact hu)
          obtain ⟨pv, hpv⟩ : ∃ q, q = inV p.1 p.2 := ⟨_, rfl⟩
          rw [← hpv] at HC HPC HA32 HTX
          rw [e4] at HA32
          obtain ⟨xn, hxn⟩ : ∃ q : Nat, p.2.index = (q : Int) := ⟨p.2.index.toNat, (Int.toNat_of_nonneg hix0).symm⟩
          obtain ⟨an, han⟩ : ∃ q : Nat, p.2.amount = (q : Int) := ⟨p.2.amount.toNat, (Int.toNat_of_nonneg hio.2.2.1).symm⟩
          have HAU := Lib.hid (show an ≤ 18446744073709551615 by have := hio.2.2.2; rw [han] at this; omega)
          have hxb : xn ≤ 15 := by rw [hxn] at hix1; omega
          obtain ⟨sl, hsl2⟩ : ∃ q, q = p.2.secret.length := ⟨_, rfl⟩
          obtain ⟨tx, htx⟩ : ∃ q, q = p.2.tx := ⟨_, rfl⟩
          obtain ⟨sc, hsc⟩ : ∃ q, q = p.2.secret := ⟨_, rfl⟩
          have HPU := Lib.hid (show putI p.2 = tx ++ numB xn ++ numB an ++ numB sl ++ sc by unfold putI; rw [hxn, han, ← htx, ← hsc, hsl2, hsc]; simp only [Int.toNat_natCast])
          have htl : tx.length = 32 := by rw [htx]; exact hio.1
          have hslb : sl ≤ 64 := by rw [hsl2]; exact hsl
          rw [hxn, han, ← hsl2] at HA32
          rw [← htx] at HTX HDG
          rw [← hsl2, ← hsc] at HS4
          obtain ⟨xs, hxs⟩ : ∃ q, q = pre ++ (ins.take k).flatMap putI := ⟨_, rfl⟩
          have HXE := Lib.hid hxs
          have hxl : xs.length ≤ 9 + 16 * 130 := by rw [hxs, List.length_append]; have := HFL.out; omega
          rw [← hxs] at HP
          clear hp hc hsl hix0 hix1 e4 hc4 hs4 hio hpv hxn han hsl2 htx hsc hxs HFL HBW
          have u1 := numB_le (n := xn) (by omega); have u2 := numB_le (n := an) HAU.out; have u3 := numB_le (n := sl) (by omega)
          have HB := Lib.hid (HBB.out _ HKB.out)
          go_wp2_with (first | (with_reducible refine wpl_loadm (o := ⟨some 26, _, _, _, _, _⟩) rfl rfl row_tin HC.out rfl HPC.out.len ?_) | (with_reducible refine wpl_alloc (o := ⟨some 7, _, _, _, _, _⟩) rfl rfl zero_tin ?_))
          intro w1_ hb1_ hbw1_ hsz1_
          have HB1_ := Lib.hid (at_mk hb1_ len_tin)
          have HBW1_ := Lib.hid hbw1_
          have HZ1_ := Lib.hid hsz1_
          clear hb1_ hbw1_ hsz1_
          go_wp2_with (first | (with_reducible refine wpl_storeb (o := ⟨none, .store _ _ _, _, _, _, _⟩) rfl rfl row_tin HB1_.out.blk rfl rfl HB1_.out.len HPC.out.len HPC.out.one ?_))
          intro w2_ hb2_ hg2_ hsz2_
          have hb_ := var_grow HBW1_.out HZ1_.out hg2_
          have HX_ := Lib.hid (at_mk hb2_ HPC.out.len)
          clear hb2_ hg2_ hsz2_ HB1_ HBW1_ HZ1_
          have HB_ := Lib.hid (HB.out.grow' hb_)
          clear HB
          have HB := HB_
          clear HB_
          have HP_ := Lib.hid (HP.out.grow hb_)
          clear HP
          have HP := HP_
          clear HP_
          have HKB_ := Lib.hid (HKB.out.grow hb_)
          clear HKB
          have HKB := HKB_
          clear HKB_
          generalize hg_ : w_.heap.size = g7 at HX_ ⊢
          clear hg_
          have HE := HX_
          clear hb_ HX_
          clear w1_
          try clear w_
          rename World => w_
          clear HB HC
          have HGQ := Lib.hid (show g7 ≠ gp from fun e => by
            obtain ⟨_, _, h1, _⟩ := HP.out
            have h2 := HE.out.blk
            rw [e] at h2
            unfold Blk at h1 h2
            rw [h1] at h2
            injection h2 with h2
            injection h2 with _ h2
            exact absurd h2 (by decide))
          have HP_ := Lib.hid (HP.out.plus HE.out.blk (by decide) HGQ.out)
          clear HP
          have HP := HP_
          clear HP_
          have HM := Lib.hid (show ∀ (j : Nat) (u : Value), (tx.map B)[j]? = some u → w_.cell? ⟨g7, 0 + j, none⟩ = some u from fun j u hu => HE.out.blk.at_ (HTX.out j u hu))
          go_wp2_with (first | (with_reducible refine wpl_loadm (o := ⟨some 29, _, _, _, _, _⟩) rfl rfl row_id HM.out rfl HDG.out.len ?_))
          clear HM
          go_wp2_with fail
          refine (pid_any gp (Kq gp g7) xs HDG.out _ HP.out (by omega)).mono ?_
          rintro e w2_ ⟨rfl, hp_, hk_⟩
          have HP_ := Lib.hid hp_
          have HKB_ := Lib.hid (HKB.out.kept hk_)
          have HE_ := Lib.hid (HE.out.kept hk_)
          clear hp_ hk_ HP HKB HE
          have HP := HP_; have HKB := HKB_; have HE := HE_
          clear HP_ HKB_ HE_
          try clear w_
          rename World => w_
          have c32 := HE.out.blk.at_ HA32.out.1
          have q2 := conv_u64' (n := xn) (by omega)
          go_wp2_with fail
          refine (num_any gp xn (Kq gp g7) (xs ++ tx) _ HP.out (by clear q2; rw [List.length_append]; omega) (by clear q2; omega)).mono ?_
          rintro e w2_ ⟨rfl, hp_, hk_⟩
          have HP_ := Lib.hid hp_
          have HKB_ := Lib.hid (HKB.out.kept hk_)
          have HE_ := Lib.hid (HE.out.kept hk_)
          clear hp_ hk_ HP HKB HE
          have HP := HP_; have HKB := HKB_; have HE := HE_
          clear HP_ HKB_ HE_
          try clear w_
          rename World => w_
          clear c32 q2
          have c33 := HE.out.blk.at_ HA32.out.2.1
          go_wp2_with fail
          refine (num_any gp an (Kq gp g7) (xs ++ tx ++ numB xn) _ HP.out (by rw [List.length_append, List.length_append]; omega) HAU.out).mono ?_
          rintro e w2_ ⟨rfl, hp_, hk_⟩
          have HP_ := Lib.hid hp_
          have HKB_ := Lib.hid (HKB.out.kept hk_)
          have HE_ := Lib.hid (HE.out.kept hk_)
          clear hp_ hk_ HP HKB HE
          have HP := HP_; have HKB := HKB_; have HE := HE_
          clear HP_ HKB_ HE_
          try clear w_
          rename World => w_
          clear c33
          have c34 := HE.out.blk.at_ HA32.out.2.2
          have HS5 := Lib.hid (HS4.out.below (HBB.out _ HKB.out))
          go_wp2_with fail
          refine (ptext_any gp (Kq gp g7) (xs ++ tx ++ numB xn ++ numB an) _ HP.out HS5.out (fun j hj => .inl (Nat.lt_of_lt_of_le hj HG1.out.2)) (by rw [List.length_append, List.length_append, List.length_append]; omega)).mono ?_
          rintro e w2_ ⟨rfl, hp_, hk_⟩
          have HP_ := Lib.hid hp_.minus
          have HKB_ := Lib.hid (HKB.out.kept hk_)
          clear hp_ hk_ HP HKB HE
          have HP := HP_; have HKB := HKB_
          clear HP_ HKB_
          try clear w_
          rename World => w_
          clear c34 HS5
          have HPN := Lib.hid (show PenAt w_ (K0 gp) gp (pre ++ (ins.take (k + 1)).flatMap putI) by
            rw [HSN.out, HPU.out, ← List.append_assoc, ← HXE.out]
            have h := HP.out
            simp only [List.append_assoc] at h ⊢
            exact h)
          clear HP u1 u2 u3
          go_wp2_with fail
          go_roundw
          case rel => exact ⟨k + 1, by omega, by go_num, Lib.hid ⟨HPN.out, HKB.out⟩⟩
          case measure => simp [intOf]; omega
        · obtain rfl : k = n := by omega
          have HP_ := Lib.hid (show PenAt w_ (K0 gp) gp (pre ++ ins.flatMap putI) by have h := HP.out; rw [List.take_of_length_le (by rw [HINL.out]; exact Nat.le_refl _)] at h; exact h)
          go_wp2_with fail
          go_meet
          case rel => exact Lib.hid ⟨HP_.out, HKB.out⟩
    case rest =>
      clear HP HKB c0
      have HP := Lib.hid hcut.out.1; have HKB := Lib.hid hcut.out.2
      clear hcut
      try clear w_
      rename World => w_
      have HFL := Lib.hid (show (ins.flatMap putI).length ≤ n * 130 by have h := fm_len putI 130 ins HPI.out; rw [HINL.out] at h; exact h)
      obtain ⟨p1, hp1⟩ : ∃ q, q = pre ++ ins.flatMap putI := ⟨_, rfl⟩
      have hp1l : p1.length ≤ 9 + 16 * 130 := by rw [hp1, List.length_append]; have := HFL.out; omega
      rw [← hp1] at HP HPT
      clear hp1 HFL hprl
      have c1 := (HXB.out _ HKB.out).blk.at_ HT1.out
      have qm := conv_u64' (n := n2) (by omega)
      go_wp2_with fail
      refine (num_any gp n2 (Kq gp g1) p1 _ (HKP.out _ _ HKB.out HP.out) (by clear qm; omega) (by clear qm; omega)).mono ?_
      rintro e w2_ ⟨rfl, hp_, hk_⟩
      have HP_ := Lib.hid hp_.minus
      have HKB_ := Lib.hid (HKB.out.kept hk_)
      clear hp_ hk_ HP HKB
      have HP := HP_; have HKB := HKB_
      clear HP_ HKB_
      try clear w_
      rename World => w_
      clear c1 qm
      obtain ⟨p2, hp2⟩ : ∃ q, q = p1 ++ numB n2 := ⟨_, rfl⟩
      have hp2l : p2.length ≤ 18 + 16 * 130 := by rw [hp2, List.length_append]; omega
      rw [← hp2] at HP HPT
      clear hp2 lm hp1l
      have c1 := (HXB.out _ HKB.out).blk.at_ HT1.out
      go_upto_block 2 with fail
      go_cut [] from 10 (fun wr => Hid (PenAt wr (K0 gp) gp (p2 ++ os.flatMap putO) ∧ KB gp w4 wr))
      case first =>
        go_wp2_with fail
        go_loopw [51] (fun iv wr => ∃ k : Nat, k ≤ n2 ∧ iv = .int .i64 k ∧ Hid (PenAt wr (K0 gp) gp (p2 ++ (os.take k).flatMap putO) ∧ KB gp w4 wr)) (fun iv _ => n2 - (intOf iv).toNat)
        case atStart => exact ⟨0, by omega, rfl, Lib.hid ⟨by simpa using HP.out, HKB.out⟩⟩
        case round =>
          obtain ⟨k, hk, rfl, hI⟩ := hrel
          clear HP HKB c1
          have HP := Lib.hid hI.out.1; have HKB := Lib.hid hI.out.2
          clear hI
          rename World => w_
          by_cases hlt : k < n2
          · obtain ⟨b, off, p, hA, hp, hok, hc⟩ := HO.out.at_ hlt
            subst hA
            have HB := Lib.hid (HBB.out _ HKB.out)
            have HC := Lib.hid (show ∀ j u, (outV p)[j]? = some u → w_.cell? ⟨b, off + k * 33 + j, none⟩ = some u from fun j u hu => bcell HB.out (hc j u hu))
            have HPC := Lib.hid (outV_cl hok)
            have HSN := Lib.hid (fm_snoc putO hp)
            have HFL := Lib.hid (fm_le putO 50 k HPO.out)
            have HA32 := Lib.hid (out_at hok)
            have HDG := Lib.hid (dig_map hok.1)
            have HTX := Lib.hid (show ∀ (j : Nat) (u : Value), (p.owner.map B)[j]? = some u → (outV p)[0 + j]? = some u from fun j u hu => by
              rw [Nat.zero_add]; unfold outV; rw [List.getElem?_append_left (List.getElem?_eq_some_iff.1 hu).1]; exact hu)
            obtain ⟨pv, hpv⟩ : ∃ q, q = outV p := ⟨_, rfl⟩
            rw [← hpv] at HC HPC HA32 HTX
            obtain ⟨an, han⟩ : ∃ q : Nat, p.amount = (q : Int) := ⟨p.amount.toNat, (Int.toNat_of_nonneg hok.2.1).symm⟩
            have HAU := Lib.hid (show an ≤ 18446744073709551615 by have := hok.2.2; rw [han] at this; omega)
            obtain ⟨tx, htx⟩ : ∃ q, q = p.owner := ⟨_, rfl⟩
            have HPU := Lib.hid (show putO p = tx ++ numB an by unfold putO; rw [han, ← htx]; simp only [Int.toNat_natCast])
            have htl : tx.length = 32 := by rw [htx]; exact hok.1
            rw [han] at HA32
            rw [← htx] at HTX HDG
            obtain ⟨xs, hxs⟩ : ∃ q, q = p2 ++ (os.take k).flatMap putO := ⟨_, rfl⟩
            have HXE := Lib.hid hxs
            have hxl : xs.length ≤ 18 + 16 * 130 + 16 * 50 := by rw [hxs, List.length_append]; have := HFL.out; omega
            rw [← hxs] at HP
            clear hp hc hok hpv han htx hxs HFL
            have u2 := numB_le (n := an) HAU.out
            go_wp2_with (first | (with_reducible refine wpl_loadm (o := ⟨some 54, _, _, _, _, _⟩) rfl rfl row_tout HC.out rfl HPC.out.len ?_) | (with_reducible refine wpl_alloc (o := ⟨some 9, _, _, _, _, _⟩) rfl rfl zero_tout ?_))
            intro w1_ hb1_ hbw1_ hsz1_
            have HB1_ := Lib.hid (at_mk hb1_ len_tout)
            have HBW1_ := Lib.hid hbw1_
            have HZ1_ := Lib.hid hsz1_
            clear hb1_ hbw1_ hsz1_
            go_wp2_with (first | (with_reducible refine wpl_storeb (o := ⟨none, .store _ _ _, _, _, _, _⟩) rfl rfl row_tout HB1_.out.blk rfl rfl HB1_.out.len HPC.out.len HPC.out.one ?_))
            intro w2_ hb2_ hg2_ hsz2_
            have hb_ := var_grow HBW1_.out HZ1_.out hg2_
            have HX_ := Lib.hid (at_mk hb2_ HPC.out.len)
            clear hb2_ hg2_ hsz2_ HB1_ HBW1_ HZ1_
            have HB_ := Lib.hid (HB.out.grow' hb_)
            clear HB
            have HB := HB_
            clear HB_
            have HP_ := Lib.hid (HP.out.grow hb_)
            clear HP
            have HP := HP_
            clear HP_
            have HKB_ := Lib.hid (HKB.out.grow hb_)
            clear HKB
            have HKB := HKB_
            clear HKB_
            generalize hg_ : w_.heap.size = g7 at HX_ ⊢
            clear hg_
            have HE := HX_
            clear hb_ HX_
            clear w1_
            try clear w_
            rename World => w_
            clear HB HC
            have HGQ := Lib.hid (show g7 ≠ gp from fun e => by
              obtain ⟨_, _, h1, _⟩ := HP.out
              have h2 := HE.out.blk
              rw [e] at h2
              unfold Blk at h1 h2
              rw [h1] at h2
              injection h2 with h2
              injection h2 with _ h2
              exact absurd h2 (by decide))
            have HP_ := Lib.hid (HP.out.plus HE.out.blk (by decide) HGQ.out)
            clear HP
            have HP := HP_
            clear HP_
            have HM := Lib.hid (show ∀ (j : Nat) (u : Value), (tx.map B)[j]? = some u → w_.cell? ⟨g7, 0 + j, none⟩ = some u from fun j u hu => HE.out.blk.at_ (HTX.out j u hu))
            go_wp2_with (first | (with_reducible refine wpl_loadm (o := ⟨some 56, _, _, _, _, _⟩) rfl rfl row_id HM.out rfl HDG.out.len ?_))
            clear HM
            go_wp2_with fail
            refine (pid_any gp (Kq gp g7) xs HDG.out _ HP.out (by omega)).mono ?_
            rintro e w2_ ⟨rfl, hp_, hk_⟩
            have HP_ := Lib.hid hp_
            have HKB_ := Lib.hid (HKB.out.kept hk_)
            have HE_ := Lib.hid (HE.out.kept hk_)
            clear hp_ hk_ HP HKB HE
            have HP := HP_; have HKB := HKB_; have HE := HE_
            clear HP_ HKB_ HE_
            try clear w_
            rename World => w_
            have c33 := HE.out.blk.at_ HA32.out
            go_wp2_with fail
            refine (num_any gp an (Kq gp g7) (xs ++ tx) _ HP.out (by rw [List.length_append]; omega) HAU.out).mono ?_
            rintro e w2_ ⟨rfl, hp_, hk_⟩
            have HP_ := Lib.hid hp_.minus
            have HKB_ := Lib.hid (HKB.out.kept hk_)
            clear hp_ hk_ HP HKB HE
            have HP := HP_; have HKB := HKB_
            clear HP_ HKB_
            try clear w_
            rename World => w_
            clear c33
            have HPN := Lib.hid (show PenAt w_ (K0 gp) gp (p2 ++ (os.take (k + 1)).flatMap putO) by
              rw [HSN.out, HPU.out, ← List.append_assoc, ← HXE.out]
              have h := HP.out
              simp only [List.append_assoc] at h ⊢
              exact h)
            clear HP u2
            go_wp2_with fail
            go_roundw
            case rel => exact ⟨k + 1, by omega, by go_num, Lib.hid ⟨HPN.out, HKB.out⟩⟩
            case measure => simp [intOf]; omega
          · obtain rfl : k = n2 := by omega
            have HP_ := Lib.hid (show PenAt w_ (K0 gp) gp (p2 ++ os.flatMap putO) by have h := HP.out; rw [List.take_of_length_le (by rw [HO.out.2.2.1]; exact Nat.le_refl _)] at h; exact h)
            go_wp2_with fail
            go_meet
            case rel => exact Lib.hid ⟨HP_.out, HKB.out⟩
      case rest =>
        clear HP HKB c1
        have HP := Lib.hid hcut.out.1; have HKB := Lib.hid hcut.out.2
        clear hcut
        try clear w_
        rename World => w_
        have HFL := Lib.hid (show (os.flatMap putO).length ≤ n2 * 50 by have h := fm_len putO 50 os HPO.out; rw [HO.out.2.2.1] at h; exact h)
        obtain ⟨p3, hp3⟩ : ∃ q, q = p2 ++ os.flatMap putO := ⟨_, rfl⟩
        have hp3l : p3.length ≤ 18 + 16 * 130 + 16 * 50 := by rw [hp3, List.length_append]; have := HFL.out; omega
        rw [← hp3] at HP HPT
        clear hp3 HFL hp2l
        have uf := numB_le (n := fn) HFU.out
        have ue := numB_le (n := en) (by have := HEU.out; omega)
        have c2 := (HXB.out _ HKB.out).blk.at_ HT2.out
        go_wp2_with fail
        refine (num_any gp fn (Kq gp g1) p3 _ (HKP.out _ _ HKB.out HP.out) (by omega) HFU.out).mono ?_
        rintro e w2_ ⟨rfl, hp_, hk_⟩
        have HP_ := Lib.hid hp_.minus
        have HKB_ := Lib.hid (HKB.out.kept hk_)
        clear hp_ hk_ HP HKB
        have HP := HP_; have HKB := HKB_
        clear HP_ HKB_
        try clear w_
        rename World => w_
        clear c2
        have c3 := (HXB.out _ HKB.out).blk.at_ HT3.out
        have qe := conv_u64' (n := en) (by have := HEU.out; omega)
        go_wp2_with fail
        refine (num_any gp en (Kq gp g1) (p3 ++ numB fn) _ (HKP.out _ _ HKB.out HP.out) (by clear qe; rw [List.length_append]; omega) (by have := HEU.out; clear qe; omega)).mono ?_
        rintro e w2_ ⟨rfl, hp_, hk_⟩
        have HP_ := Lib.hid hp_.minus
        have HKB_ := Lib.hid (HKB.out.kept hk_)
        clear hp_ hk_ HP HKB
        have HP := HP_; have HKB := HKB_
        clear HP_ HKB_
        try clear w_
        rename World => w_
        clear c3 qe
        rw [← HPT.out] at HP
        have HTL := Lib.hid (show tf.length ≤ 100000 by rw [HPT.out]; simp only [List.length_append]; omega)
        go_wp2_with fail
        refine (pbytes_any gp (K0 gp) tf _ HP.out (by have := HTL.out; omega)).mono ?_
        rintro e w6 ⟨A', c', rfl, ho, hc, hg5⟩
        have HO5 := Lib.hid (own_base ho (HBB.out _ HKB.out).size)
        have HC5 := Lib.hid hc
        have HB6 := Lib.hid (show Grow w w6 from (HBB.out _ HKB.out).grow' hg5)
        clear ho hc hg5
        go_wp2_with fail
        go_ret2
        exact ⟨A', c', rfl, HO5.out, HC5.out, HB6.out⟩
  · have d0 : (ck != 0) = true := by simpa using h0
    have HNI := Lib.hid (HFN.out h0)
    clear h0
    go_wp2_with fail
    go_ret2
    refine ⟨none, 0, ?_⟩
    rw [HNI.out]
    exact ⟨rfl, World.ownsRow_nil _ _ _ _, Nat.le_refl _, HB.out⟩
end Go.Proofs.Ytobmldegjajocaa
/- Which blocks a pen leaves alone: those below it, and two ranges of later ones. No program in sight. -/
namespace Go.Proofs.Ytobmldegjajocaa
open Go.RowKit
def KR (gp z1 z2 : Nat) : Nat → Prop := fun j => j < gp ∨ (z1 ≤ j ∧ j < z2)
end Go.Proofs.Ytobmldegjajocaa
/- The contract of command.Put. Printed by mkcmdg.py. -/
namespace Go.Proofs.Ytobmldegjajocaa
open Go.RowKit Go.Shelf
set_option linter.unusedVariables false
theorem own_kr {w w' : World} {gp z n c : Nat} {A : Option Addr} {xs : List Value} (ho : OwnAt w z A n c xs) (hk : Kept (KR gp z w.heap.size) w w') : Sl w' w'.heap.size 1 A n xs := by
  have h := Sl.of_own ho
  refine ⟨h.1, fun hn => ?_⟩
  obtain ⟨b, off, e, hb, hc⟩ := h.2 hn
  have h1 : z ≤ b := own_from ho b (by rw [e]; rfl)
  exact ⟨b, off, e, Nat.lt_of_lt_of_le hb hk.size, fun j u hu => (World.cell?_of_block (a := ⟨b, off + j, none⟩) (hk.block b (.inr ⟨h1, hb⟩))).trans (hc j u hu)⟩
/-- A text that was laid after the pen. -/
theorem ptexto_any (gp : Nat) (xs : List UInt8) {A : Option Addr} {n c : Nat} {bs : List UInt8} (w0 w : World) (h : PenAt w0 (KR gp 0 0) gp xs) (hg : Grow w0 w) (hbn : bs.length = n) (ho : OwnAt w w0.heap.size A n c (bs.map B)) (hl : xs.length + n ≤ 900000) :
    Calls Try.prog 26 #[.pointer (some ⟨gp, 0, none⟩), .slice A n c] w fun e w' => e = .returned (.tuple #[]) ∧ PenAt w' (KR gp 0 0) gp (xs ++ (numB n ++ bs)) ∧ Kept (KR gp 0 0) w w' :=
  (ptextk_any gp (KR gp w0.heap.size w.heap.size) xs w (h.more hg (fun j hj => by rcases hj with h | h; exact .inl (.inl h); exact .inr h)) hbn (fun w' hk => own_kr ho hk) hl).mono
    fun e w' ⟨h1, h2, h3⟩ => ⟨h1, h2.less (fun j hj => by rcases hj with h | h; exact .inl h; omega), h3.mono (fun j hj => by rcases hj with h | h; exact .inl h; omega)⟩
theorem num_anyI (g : Nat) (N : Int) (K : Nat → Prop) (xs : List UInt8) (w : World) (h : PenAt w K g xs) (hl : xs.length ≤ 1000000) (h0 : 0 ≤ N) (hN : N ≤ 18446744073709551615) :
    Calls Try.prog 22 #[.pointer (some ⟨g, 0, none⟩), .int .u64 N] w fun e w' => e = .returned (.tuple #[]) ∧ PenAt w' K g (xs ++ numB N.toNat) ∧ Kept K w w' := by
  have := num_any g N.toNat K xs w h hl (by omega)
  rw [Int.toNat_of_nonneg h0] at this; exact this
theorem KB.keptR {gp : Nat} {w4 w w2 : World} (h : KB gp w4 w) (k : Kept (KR gp 0 0) w w2) : KB gp w4 w2 := ⟨h.1.trans (k.below (fun j hj => .inl hj)), h.2⟩
theorem convI {k : Int} (h0 : 0 ≤ k) (h : k ≤ 18446744073709551615) : IntKind.u64.wrap k = k := by rw [IntKind.wrap_u64]; omega
theorem putCB_leC {x : Cer} (hx : x.ok) (hp : x.path.length ≤ 32) : (putCB x).length ≤ 2000 := by
  have l1 := eformB_le hx.1; have l2 := hformB_le hx.2.2.1; have l3 := hx.2.2.2
  have n1 := numB_le (n := (eformB x.e).length) (by omega); have n2 := numB_le (n := x.path.length) (by omega); have n3 := numB_le (n := (hformB x.h).length) (by omega)
  have fl := flat_32 x.path hx.2.1
  unfold putCB
  simp only [List.length_append]
  omega
theorem checkC_zero {m : Cmd} (h : checkC m = 0) : (1 ≤ m.kind ∧ m.kind ≤ 9) ∧ (0 ≤ m.serial ∧ m.serial ≤ 1099511627776 ∧ m.dest.amount ≤ 4611686018427387904 ∧ 0 ≤ m.epoch ∧ m.epoch ≤ 1099511627776) ∧ m.certs.length ≤ 16 ∧ (hasTxK m.kind = true → checkT m.tx = 0) ∧ (∀ x ∈ m.certs, badCert x = false) ∧ (hasCK m.kind = false → m.certs = []) ∧ (wrong1 m || wrong2 m) = false := by
  unfold checkC at h
  split at h
  · cases h
  rename_i h1
  split at h
  · cases h
  rename_i h2
  split at h
  · cases h
  rename_i h3
  split at h
  · rename_i h4
    rw [h] at h4; simp at h4
  rename_i h4
  split at h
  · cases h
  rename_i h5
  simp only [Bool.or_eq_true, not_or, Bool.not_eq_true] at h2
  obtain ⟨⟨ha, hb⟩, hc⟩ := h2
  have hb0 := hb
  unfold wrong3 at hc
  simp only [Bool.or_eq_false_iff, decide_eq_false_iff_not] at hc
  unfold wrong2 at hb
  simp only [Bool.or_eq_false_iff, Bool.and_eq_false_iff, Bool.not_eq_false', Bool.not_eq_eq_eq_not, Bool.not_false, List.isEmpty_iff] at hb
  refine ⟨by omega, by omega, by omega, fun hk => ?_, fun x hx => ?_, fun hk => ?_, by rw [ha, hb0]; rfl⟩
  · rw [hk] at h4
    simpa using h4
  · simp only [Bool.not_eq_true] at h5
    exact List.any_eq_false.1 h5 x hx |> (by simpa using ·)
  · rcases hb.2 with h | h
    · rw [hk] at h; cases h
    · exact h
theorem certText_le {x : Cer} (hx : x.ok) (hb : badCert x = false) : (certText x).length ≤ 2009 := by
  have hp : x.path.length ≤ 32 := by unfold badCert at hb; simp at hb; omega
  have h := putCB_leC hx hp
  have h2 := numB_le (n := (putCB x).length) (by omega)
  unfold certText; rw [List.length_append]; omega
set_option maxRecDepth 100000 in
set_option maxHeartbeats 16000000 in
theorem cmput_any {q : CW} {m : Cmd} (w : World) (h : CmdAt w q m) (hs : SmallC m) :
    Calls Try.prog 9 #[.agg (q.vs m).toArray] w fun e w' => ∃ A' c', e = .returned (.tuple #[.slice A' (formC m).1.length c', .int .i64 (formC m).2]) ∧ OwnAt w' w.heap.size A' (formC m).1.length c' ((formC m).1.map B) ∧ (formC m).1.length ≤ c' ∧ Grow w w' := by
  have HXC := Lib.hid (vs_cl (q := q) h.ok)
  have X0 := Lib.hid (vs_kind q m); have X5 := Lib.hid (vs_certs q m)
  have X39 := Lib.hid (vs_serial (q := q) h.ok.2.2.2.1); have X40 := Lib.hid (vs_epoch (q := q) h.ok.2.2.2.1)
  have XA := Lib.hid (show (q.vs m)[38]? = some (.int .u64 m.dest.amount) from vs_to (j := 32) (by unfold outV; rw [List.getElem?_append_right (by simp [h.ok.2.2.2.1.1])]; simp [h.ok.2.2.2.1.1]))
  have XO := Lib.hid (fun j u (hu : (m.dest.owner.map B)[j]? = some u) => vs_to (q := q) (m := m) (j := j) (u := u) (by unfold outV; rw [List.getElem?_append_left (List.getElem?_eq_some_iff.1 hu).1]; exact hu))
  have XI := Lib.hid (fun j u (hu : (m.id.map B)[j]? = some u) => vs_id (q := q) h.ok.2.2.2.1 hu)
  have XX := Lib.hid (fun j u (hu : (q.tv m)[j]? = some u) => vs_tx hu)
  have LX := Lib.hid (show (q.tv m).length = 4 from rfl)
  have HDO := Lib.hid (dig_map h.ok.2.2.2.1.1); have HDI := Lib.hid (dig_map h.ok.2.2.2.2.2.2)
  have HAM := Lib.hid (show 0 ≤ m.dest.amount ∧ m.dest.amount ≤ 18446744073709551615 from by have := h.ok.2.2.2.1.2; unfold U64 at this; omega)
  have HLO := Lib.hid (show m.dest.owner.length = 32 from h.ok.2.2.2.1.1); have HLI := Lib.hid (show m.id.length = 32 from h.ok.2.2.2.2.2.2)
  have hn3 : m.certs.length = q.n3 := h.n3
  have HCK := Lib.hid (fun w' (hg : Grow w w') => cmcheck_any w' (h.grow hg) hs)
  have HHT := Lib.hid (fun w' => hastx_any m.kind w'); have HHC := Lib.hid (fun w' => hasc_any m.kind w')
  have HTP := Lib.hid (fun (w' : World) (hg : Grow w w') => show Calls Try.prog 25 #[.agg (q.tv m).toArray] w' fun e w'' => ∃ A' c', e = .returned (.tuple #[.slice A' (tformB m.tx).length c', .int .i64 (checkT m.tx)]) ∧ OwnAt w'' w'.heap.size A' (tformB m.tx).length c' ((tformB m.tx).map B) ∧ (tformB m.tx).length ≤ c' ∧ Grow w' w'' from by
    have := tputo_any w' (h.ins.grow hg) (h.outs.grow hg) (by rw [← h.n1]; exact Nat.le_trans hs.1 (by decide)) (by rw [← h.n2]; exact Nat.le_trans hs.2.1 (by decide)) h.ok.2.1.2.2.1 h.ok.2.1.2.2.2
    rw [h.tx] at this; exact this)
  have HCA := Lib.hid (fun (w' : World) (hg : Grow w w') => h.certs.grow hg)
  have HCE := Lib.hid h.certsE
  have HPL := Lib.hid (show ∀ x ∈ m.certs, x.path.length ≤ 1000 from hs.2.2.2.2)
  have HZ := Lib.hid (show checkC m = 0 → _ from fun e => checkC_zero (m := m) e)
  have HTL := Lib.hid (show hasTxK m.kind = true → checkC m = 0 → tformB m.tx = putTB m.tx ∧ (putTB m.tx).length ≤ 3000 from fun h1 h2 => by
    have h3 := (checkC_zero h2).2.2.2.1 h1
    exact ⟨by unfold tformB; rw [if_pos h3], putTB_le h.ok.2.1 h3⟩)
  have HCT := Lib.hid (show checkC m = 0 → ∀ x ∈ m.certs, (certText x).length ≤ 2009 from fun h1 x hx => certText_le (h.ok.2.2.1 x hx) ((checkC_zero h1).2.2.2.2.1 x hx))
  have F1 := Lib.hid (show checkC m ≠ 0 → formC m = ([], checkC m) from fun e => by unfold formC; rw [if_pos e])
  have F2 := Lib.hid (show checkC m = 0 → 8192 < (putCm m).length → formC m = ([], 4) from fun e e2 => by unfold formC; rw [if_neg (by simp [e]), if_pos e2])
  have F3 := Lib.hid (show checkC m = 0 → ¬ 8192 < (putCm m).length → formC m = (putCm m, 0) from fun e e2 => by unfold formC; rw [if_neg (by simp [e]), if_neg e2])
  have P1 := Lib.hid (show m.kind = 1 → putCm m = numB m.kind.toNat ++ numB m.serial.toNat ++ m.dest.owner ++ numB m.dest.amount.toNat from fun e => by unfold putCm txPart certPart hasTxK hasCK; rw [e]; simp)
  have PT := Lib.hid (show hasTxK m.kind = true → checkC m = 0 → putCm m = numB m.kind.toNat ++ (numB (tformB m.tx).length ++ tformB m.tx) ++ (if hasCK m.kind then numB q.n3 else []) ++ m.certs.flatMap certText from fun e e0 => by
    have h1 := HTL.out e e0
    have h2 := (checkC_zero e0).2.2.2.2.2.1
    unfold putCm txPart certPart
    rw [if_pos e, h1.1]
    have e2 : 2 ≤ m.kind ∧ m.kind ≤ 6 := by unfold hasTxK at e; simp at e; omega
    rw [if_neg (show ¬ m.kind = 1 by omega), if_neg (show ¬ m.kind = 7 by omega), if_neg (show ¬ m.kind = 9 by omega), hn3]
    cases hc : hasCK m.kind with
    | true => simp
    | false => rw [h2 hc]; simp)
  have P7 := Lib.hid (show m.kind = 7 → putCm m = numB m.kind.toNat ++ numB m.epoch.toNat from fun e => by unfold putCm txPart certPart hasTxK hasCK; rw [e]; simp)
  have P9 := Lib.hid (show m.kind = 9 → putCm m = numB m.kind.toNat ++ m.id from fun e => by unfold putCm txPart certPart hasTxK hasCK; rw [e]; simp)
  have P8 := Lib.hid (show m.kind ≠ 1 → hasTxK m.kind = false → m.kind ≠ 7 → m.kind ≠ 9 → putCm m = numB m.kind.toNat from fun e1 e2 e3 e4 => by
    have e5 : hasCK m.kind = false := by unfold hasTxK at e2; unfold hasCK; simp at e2 ⊢; omega
    unfold putCm txPart certPart; rw [e2, e5, if_neg e1, if_neg e3, if_neg e4]; simp)
  obtain ⟨ck, hck⟩ : ∃ z, z = checkC m := ⟨_, rfl⟩
  obtain ⟨pc, hpc⟩ : ∃ z, z = putCm m := ⟨_, rfl⟩
  obtain ⟨fm, hfm⟩ : ∃ z, z = formC m := ⟨_, rfl⟩
  obtain ⟨tb, htb⟩ : ∃ z, z = tformB m.tx := ⟨_, rfl⟩
  obtain ⟨tk, htk⟩ : ∃ z, z = checkT m.tx := ⟨_, rfl⟩
  rw [← hck] at HCK HZ HTL HCT F1 F2 F3 PT
  rw [← hpc] at F2 F3 P1 PT P7 P9 P8
  rw [← hfm] at F1 F2 F3 ⊢
  rw [← htb] at HTP HTL PT; rw [← htk] at HTP
  have HTB := Lib.hid (show hasTxK m.kind = true → ck = 0 → tb.length ≤ 3000 from fun h1 h2 => by rw [(HTL.out h1 h2).1]; exact (HTL.out h1 h2).2)
  obtain ⟨xv, hxv⟩ : ∃ z, z = q.vs m := ⟨_, rfl⟩
  obtain ⟨tv, htv⟩ : ∃ z, z = q.tv m := ⟨_, rfl⟩
  obtain ⟨crs, hcrs⟩ : ∃ z, z = m.certs := ⟨_, rfl⟩
  rw [← hxv] at HXC X0 X5 X39 X40 XA XO XI XX HCK ⊢
  rw [← htv] at XX LX HTP
  have HCL := Lib.hid (show crs.length = q.n3 by rw [hcrs]; exact hn3)
  have HC16 := Lib.hid (show ck = 0 → q.n3 ≤ 16 from fun e => by rw [← hn3]; exact (HZ.out e).2.2.1)
  rw [← hcrs] at HCE HPL HCT PT
  have HRG := Lib.hid (show ck = 0 → (1 ≤ m.kind ∧ m.kind ≤ 9) ∧ (0 ≤ m.serial ∧ m.serial ≤ 1099511627776 ∧ 0 ≤ m.epoch ∧ m.epoch ≤ 1099511627776) from fun e => ⟨(HZ.out e).1, by have := (HZ.out e).2.1; omega⟩)
  clear HZ HTL
  obtain ⟨own, hown⟩ : ∃ z, z = m.dest.owner := ⟨_, rfl⟩
  obtain ⟨mid, hmid⟩ : ∃ z, z = m.id := ⟨_, rfl⟩
  rw [← hown] at XO HDO HLO P1; rw [← hmid] at XI HDI HLI P9
  obtain ⟨k, hk⟩ : ∃ z, z = m.kind := ⟨_, rfl⟩
  obtain ⟨se, hse⟩ : ∃ z, z = m.serial := ⟨_, rfl⟩
  obtain ⟨ep, hep⟩ : ∃ z, z = m.epoch := ⟨_, rfl⟩
  obtain ⟨am, ham⟩ : ∃ z, z = m.dest.amount := ⟨_, rfl⟩
  rw [← hk] at X0 HHT HHC HTB HRG P1 PT P7 P9 P8; rw [← hse] at X39 HRG P1; rw [← hep] at X40 HRG P7; rw [← ham] at XA HAM P1
  obtain ⟨A, n, c, A2, n2, c2, A3, n3, c3, l, cl⟩ := q
  simp only at X5 HCA HCE PT HCL HC16
  clear h hs hn3 hck hpc hfm htb htk hxv htv hcrs hown hmid hk hse hep ham
  obtain ⟨w_, hw⟩ : ∃ x, x = w := ⟨_, rfl⟩
  have HB := Lib.hid (show Below w.heap.size w w_ by rw [hw]; exact Below.refl _ _)
  suffices H : Calls Try.prog 9 #[.agg xv.toArray] w_ fun e w' => ∃ A' c', e = .returned (.tuple #[.slice A' fm.1.length c', .int .i64 fm.2]) ∧ OwnAt w' w.heap.size A' fm.1.length c' (fm.1.map B) ∧ fm.1.length ≤ c' ∧ Grow w w' by rw [hw] at H; exact H
  clear hw
  go_enter Try.func9, Try.ntmps9
  go_wp2_with (first | (with_reducible refine wpl_box (o := ⟨some 1, _, _, _, _, _⟩) rfl rfl rfl ?_))
  intro w2_ hb2_ hb_ hsz2_
  have HX_ := Lib.hid (at_mk hb2_ HXC.out.len)
  clear hb2_ hsz2_
  have HG_ := Lib.hid HB.out.size
  have HB_ := Lib.hid (HB.out.grow' hb_)
  clear HB
  have HB := HB_
  clear HB_
  generalize hg_ : w_.heap.size = g1 at HX_ HG_ ⊢
  clear hg_
  have HX_g := HG_
  clear HG_
  have HX := HX_
  clear hb_ HX_
  try clear w_
  rename World => w_
  go_wp2_with (first | (with_reducible refine wpl_loadb (o := ⟨some 11, _, _, _, _, _⟩) rfl rfl row_cmd HX.out.blk rfl HX.out.len ?_))
  refine (HCK.out _ HB.out).mono ?_
  rintro e w_ ⟨rfl, hb_⟩
  have HB_ := Lib.hid (HB.out.grow' hb_)
  clear HB
  have HB := HB_
  clear HB_
  have HX_ := Lib.hid (HX.out.grow hb_)
  clear HX
  have HX := HX_
  clear HX_
  clear hb_
  by_cases h0 : ck = 0
  rotate_left
  · have d0 : (ck != 0) = true := by simpa using h0
    have HNI := Lib.hid (F1.out h0)
    clear h0
    go_wp2_with fail
    go_ret2
    exact ⟨none, 0, by rw [HNI.out]; rfl, by rw [HNI.out]; exact World.ownsRow_nil _ _ _ _, by rw [HNI.out]; exact Nat.le_refl _, HB.out⟩
  obtain ⟨⟨hk1, hk9⟩, hse0, hse1, hep0, hep1⟩ := HRG.out h0
  have hn16 : n3 ≤ 16 := HC16.out h0
  have HCT2 := Lib.hid (HCT.out h0)
  have HTB2 := Lib.hid (fun e => HTB.out e h0)
  have PT2 := Lib.hid (fun e => PT.out e h0)
  have F22 := Lib.hid (F2.out h0); have F32 := Lib.hid (F3.out h0)
  have d0 : (ck != 0) = false := by simpa using h0
  clear HCK HRG HC16 HCT HTB PT F1 F2 F3 h0
  go_wp2_with (first | (with_reducible refine wpl_alloc (o := ⟨some 5, _, _, _, _, _⟩) rfl rfl zero_pen ?_))
  clear d0
  intro w4 hb4 hbw4 hsz4
  obtain ⟨gp, hgp⟩ : ∃ q, q = w_.heap.size := ⟨_, rfl⟩
  have HG1 := Lib.hid (show g1 < gp ∧ w.heap.size ≤ gp by have h1 := HX.out.lt; have h2 := HB.out.size; omega)
  have HX4 := Lib.hid (HX.out.grow hbw4)
  have HB4 := Lib.hid (HB.out.grow' hbw4)
  rw [← hgp] at hb4 hsz4 ⊢
  have HP := Lib.hid (show PenAt w4 (KR gp 0 0) gp [] from PenAt.new hb4 (fun k hk => by rcases hk with h | h; omega; omega))
  have HKB := Lib.hid (show KB gp w4 w4 from ⟨Below.refl _ _, by omega⟩)
  have HXB := Lib.hid (show ∀ w', KB gp w4 w' → At w' g1 33 73 xv from fun w' h => ⟨HX4.out.blk.below h.1 HG1.out.1, HX4.out.len⟩)
  have HBB := Lib.hid (show ∀ w', KB gp w4 w' → Below w.heap.size w w' from fun w' h => HB4.out.trans (h.1.mono HG1.out.2))
  clear hb4 hbw4 hsz4 hgp HX HB HX4
  have c0 := (HXB.out _ HKB.out).blk.at_ X0.out
  have qk := convI (k := k) (by omega) (by omega)
  go_wp2_with fail
  refine (num_anyI gp k (KR gp 0 0) [] _ HP.out (by simp) (by clear qk; omega) (by clear qk; omega)).mono ?_
  rintro e w2_ ⟨rfl, hp_, hk_⟩
  have HP_ := Lib.hid hp_
  have HKB_ := Lib.hid (HKB.out.keptR hk_)
  clear hp_ hk_ HP HKB
  have HP := HP_; have HKB := HKB_
  clear HP_ HKB_
  try clear w_
  rename World => w_
  clear c0 qk
  obtain ⟨p0, hp0⟩ : ∃ z, z = numB k.toNat := ⟨_, rfl⟩
  have hl0 : p0.length ≤ 9 := by rw [hp0]; exact numB_le (by omega)
  have HP_ := Lib.hid (show PenAt w_ (KR gp 0 0) gp p0 by rw [hp0]; exact HP.out)
  clear HP
  have HP := HP_
  clear HP_
  rw [← hp0] at P1 PT2 P7 P9 P8
  clear hp0
  have c0 := (HXB.out _ HKB.out).blk.at_ X0.out
  go_upto_block 0 with fail
  go_cut [] from 6 (fun wr => Hid (PenAt wr (KR gp 0 0) gp pc ∧ pc.length ≤ 100000) ∧ Hid (KB gp w4 wr))
  case first =>
    by_cases h_1 : k = 1
    · have y_1 := beq_te (a := k) (b := 1) h_1
      have PQ := Lib.hid (P1.out h_1)
      clear h_1
      clear c0
      have c0 := (HXB.out _ HKB.out).blk.at_ X0.out
      have c39 := (HXB.out _ HKB.out).blk.at_ X39.out
      have qk := convI (k := se) (by omega) (by omega)
      go_wp2_with fail
      refine (num_anyI gp se (KR gp 0 0) p0 _ HP.out (by clear qk; omega) (by clear qk; omega) (by clear qk; omega)).mono ?_
      rintro e w2_ ⟨rfl, hp_, hk_⟩
      have HP_ := Lib.hid hp_
      have HKB_ := Lib.hid (HKB.out.keptR hk_)
      clear hp_ hk_ HP HKB
      have HP := HP_; have HKB := HKB_
      clear HP_ HKB_
      try clear w_
      rename World => w_
      clear c0 c39 qk
      have ls := numB_le (n := se.toNat) (by omega)
      have FO := Lib.hid (show ∀ j u, (own.map B)[j]? = some u → w_.cell? ⟨g1, 6 + j, none⟩ = some u from fun j u hu => (HXB.out _ HKB.out).blk.at_ (XO.out j u hu))
      go_wp2_with (first | (with_reducible refine wpl_loadm (o := ⟨some 30, _, _, _, _, _⟩) rfl rfl row_aid FO.out rfl HDO.out.len ?_))
      refine (pid_any gp (KR gp 0 0) (p0 ++ numB se.toNat) HDO.out _ HP.out (by rw [List.length_append]; omega)).mono ?_
      rintro e w2_ ⟨rfl, hp_, hk_⟩
      have HP_ := Lib.hid hp_
      have HKB_ := Lib.hid (HKB.out.keptR hk_)
      clear hp_ hk_ HP HKB
      have HP := HP_; have HKB := HKB_
      clear HP_ HKB_
      try clear w_
      rename World => w_
      clear FO
      have lo := HLO.out
      have c38 := (HXB.out _ HKB.out).blk.at_ XA.out
      go_wp2_with fail
      refine (num_anyI gp am (KR gp 0 0) (p0 ++ numB se.toNat ++ own) _ HP.out (by rw [List.length_append, List.length_append]; omega) HAM.out.1 HAM.out.2).mono ?_
      rintro e w2_ ⟨rfl, hp_, hk_⟩
      have HP_ := Lib.hid hp_
      have HKB_ := Lib.hid (HKB.out.keptR hk_)
      clear hp_ hk_ HP HKB
      have HP := HP_; have HKB := HKB_
      clear HP_ HKB_
      try clear w_
      rename World => w_
      clear c38
      have la := numB_le (n := am.toNat) (by have := HAM.out.2; omega)
      have HPN := Lib.hid (show PenAt w_ (KR gp 0 0) gp pc ∧ pc.length ≤ 100000 from ⟨by rw [PQ.out]; exact HP.out, by rw [PQ.out]; simp only [List.length_append]; omega⟩)
      clear HP la lo ls
      go_wp2_with fail
      go_meet
      case rel => exact ⟨HPN, HKB⟩
    have y_1 := beq_fe (a := k) (b := 1) h_1
    have H_1 := Lib.hid h_1
    clear h_1
    go_wp2_with fail
    refine (HHT.out _).mono ?_
    rintro e w2_ ⟨rfl, hb_⟩
    have HP_ := Lib.hid (HP.out.grow hb_); have HKB_ := Lib.hid (HKB.out.grow hb_)
    clear c0 hb_ HP HKB
    have HP := HP_; have HKB := HKB_
    clear HP_ HKB_
    try clear w_
    rename World => w_
    have c0 := (HXB.out _ HKB.out).blk.at_ X0.out
    obtain ⟨ht, hht⟩ : ∃ z, z = hasTxK k := ⟨_, rfl⟩
    rw [← hht] at HTB2 PT2 P8 ⊢
    clear hht
    cases ht with
    | false =>
      by_cases h_7 : k = 7
      · have y_7 := beq_te (a := k) (b := 7) h_7
        have PQ := Lib.hid (P7.out h_7)
        clear h_7
        have c40 := (HXB.out _ HKB.out).blk.at_ X40.out
        have qk := convI (k := ep) (by omega) (by omega)
        go_wp2_with fail
        refine (num_anyI gp ep (KR gp 0 0) p0 _ HP.out (by clear qk; omega) (by clear qk; omega) (by clear qk; omega)).mono ?_
        rintro e w2_ ⟨rfl, hp_, hk_⟩
        have HP_ := Lib.hid hp_
        have HKB_ := Lib.hid (HKB.out.keptR hk_)
        clear hp_ hk_ HP HKB
        have HP := HP_; have HKB := HKB_
        clear HP_ HKB_
        try clear w_
        rename World => w_
        clear c0 c40 qk
        have ls := numB_le (n := ep.toNat) (by omega)
        have HPN := Lib.hid (show PenAt w_ (KR gp 0 0) gp pc ∧ pc.length ≤ 100000 from ⟨by rw [PQ.out]; exact HP.out, by rw [PQ.out]; simp only [List.length_append]; omega⟩)
        clear HP ls
        go_wp2_with fail
        go_meet
        case rel => exact ⟨HPN, HKB⟩
      have y_7 := beq_fe (a := k) (b := 7) h_7
      have H_7 := Lib.hid h_7
      clear h_7
      by_cases h_9 : k = 9
      · have y_9 := beq_te (a := k) (b := 9) h_9
        have PQ := Lib.hid (P9.out h_9)
        clear h_9
        have FI := Lib.hid (show ∀ j u, (mid.map B)[j]? = some u → w_.cell? ⟨g1, 41 + j, none⟩ = some u from fun j u hu => (HXB.out _ HKB.out).blk.at_ (XI.out j u hu))
        go_wp2_with (first | (with_reducible refine wpl_loadm (o := ⟨some 80, _, _, _, _, _⟩) rfl rfl row_aid FI.out rfl HDI.out.len ?_))
        refine (pid_any gp (KR gp 0 0) p0 HDI.out _ HP.out (by omega)).mono ?_
        rintro e w2_ ⟨rfl, hp_, hk_⟩
        have HP_ := Lib.hid hp_
        have HKB_ := Lib.hid (HKB.out.keptR hk_)
        clear hp_ hk_ HP HKB
        have HP := HP_; have HKB := HKB_
        clear HP_ HKB_
        try clear w_
        rename World => w_
        clear c0 FI
        have lo := HLI.out
        have HPN := Lib.hid (show PenAt w_ (KR gp 0 0) gp pc ∧ pc.length ≤ 100000 from ⟨by rw [PQ.out]; exact HP.out, by rw [PQ.out]; simp only [List.length_append]; omega⟩)
        clear HP lo
        go_wp2_with fail
        go_meet
        case rel => exact ⟨HPN, HKB⟩
      have y_9 := beq_fe (a := k) (b := 9) h_9
      have HPN := Lib.hid (show PenAt w_ (KR gp 0 0) gp pc ∧ pc.length ≤ 100000 from by rw [P8.out H_1.out rfl H_7.out h_9]; exact ⟨HP.out, by omega⟩)
      clear h_9 HP
      go_wp2_with fail
      go_meet
      case rel => exact ⟨HPN, HKB⟩
    | true =>
      have htl : tb.length ≤ 3000 := HTB2.out rfl
      have PQ := Lib.hid (PT2.out rfl)
      have FX := Lib.hid (show ∀ j u, tv[j]? = some u → w_.cell? ⟨g1, 1 + j, none⟩ = some u from fun j u hu => (HXB.out _ HKB.out).blk.at_ (XX.out j u hu))
      go_wp2_with (first | (with_reducible refine wpl_loadm (o := ⟨some 42, _, _, _, _, _⟩) rfl rfl row_tx FX.out rfl LX.out ?_))
      refine (HTP.out _ (HBB.out _ HKB.out)).mono ?_
      rintro e w3_ ⟨TA, TC, rfl, ho_, hc_, hb_⟩
      have HO_ := Lib.hid ho_
      have HGW := Lib.hid hb_
      have HKB_ := Lib.hid (HKB.out.grow hb_)
      obtain ⟨tl, htl2⟩ : ∃ z, z = tb.length := ⟨_, rfl⟩
      have HTE := Lib.hid htl2
      rw [← htl2] at HO_ PQ htl ⊢
      clear c0 FX HKB ho_ hc_ hb_ htl2
      have HKB := HKB_
      clear HKB_
      go_wp2_with fail
      refine (ptexto_any gp p0 _ _ HP.out HGW.out HTE.out.symm HO_.out (by omega)).mono ?_
      rintro e w2_ ⟨rfl, hp_, hk_⟩
      have HP_ := Lib.hid hp_
      have HKB_ := Lib.hid (HKB.out.keptR hk_)
      clear hp_ hk_ HP HKB HO_ HGW
      have HP := HP_; have HKB := HKB_
      clear HP_ HKB_
      try clear w_
      try clear w3_
      rename World => w_
      obtain ⟨p1, hp1⟩ : ∃ z, z = p0 ++ (numB tl ++ tb) := ⟨_, rfl⟩
      have hl1 : p1.length ≤ 3018 := by rw [hp1]; have := numB_le (n := tl) (by omega); have := HTE.out; simp only [List.length_append]; omega
      rw [← hp1] at HP PQ
      clear hp1 hl0 HTE htl
      have c0 := (HXB.out _ HKB.out).blk.at_ X0.out
      go_wp2_with fail
      refine (HHC.out _).mono ?_
      rintro e w2_ ⟨rfl, hb_⟩
      have HP_ := Lib.hid (HP.out.grow hb_); have HKB_ := Lib.hid (HKB.out.grow hb_)
      clear c0 hb_ HP HKB
      have HP := HP_; have HKB := HKB_
      clear HP_ HKB_
      try clear w_
      rename World => w_
      obtain ⟨hc, hhc⟩ : ∃ z, z = hasCK k := ⟨_, rfl⟩
      rw [← hhc] at PQ ⊢
      clear hhc
      obtain ⟨p2, hp2⟩ : ∃ z, z = p1 ++ (if hc then numB n3 else []) := ⟨_, rfl⟩
      have HPE := Lib.hid hp2
      have hl2 : p2.length ≤ 3030 := by rw [hp2]; have := numB_le (n := n3) (by omega); rw [List.length_append]; split; omega; simp; omega
      rw [← hp2] at PQ
      clear hp2
      go_upto_if 50 with fail
      go_cut [] from 51 to 55 (fun wr => Hid (PenAt wr (KR gp 0 0) gp p2) ∧ Hid (KB gp w4 wr))
      case first =>
        cases hc with
        | false =>
          have HPN := Lib.hid (show PenAt w_ (KR gp 0 0) gp p2 by rw [HPE.out]; simpa using HP.out)
          go_wp2_with fail
          go_meet
          case rel => exact ⟨HPN, HKB⟩
        | true =>
          have c5 := (HXB.out _ HKB.out).blk.at_ X5.out
          have qk := convI (k := (n3 : Int)) (by omega) (by omega)
          go_wp2_with fail
          refine (num_any gp n3 (KR gp 0 0) p1 _ HP.out (by clear qk; omega) (by clear qk; omega)).mono ?_
          rintro e w2_ ⟨rfl, hp_, hk_⟩
          have HPN := Lib.hid (show PenAt w2_ (KR gp 0 0) gp p2 by rw [HPE.out]; simpa using hp_)
          have HKB_ := Lib.hid (HKB.out.keptR hk_)
          clear hp_ hk_ HP HKB c5 qk
          go_wp2_with fail
          go_meet
          case rel => exact ⟨HPN, HKB_⟩
      case rest =>
        obtain ⟨hp_, hk_⟩ := hcut
        clear HP HKB HPE
        have HP := hp_; have HKB := hk_
        clear hp_ hk_
        try clear w_
        rename World => w_
        have c5 := (HXB.out _ HKB.out).blk.at_ X5.out
        go_wp2_with fail
        go_loopw [59] (fun iv wr => ∃ j : Nat, j ≤ n3 ∧ iv = .int .i64 j ∧ Hid (PenAt wr (KR gp 0 0) gp (p2 ++ (crs.take j).flatMap certText)) ∧ Hid (KB gp w4 wr)) (fun iv _ => n3 - (intOf iv).toNat)
        case atStart => exact ⟨0, by omega, rfl, Lib.hid (by simpa using HP.out), HKB⟩
        case round =>
          obtain ⟨j, hj, rfl, hp_, hk_⟩ := hrel
          clear HP HKB c5
          have HP := hp_; have HKB := hk_
          clear hp_ hk_
          rename World => w_
          by_cases hlt : j < n3
          · obtain ⟨b, off, p, P1_, pn, pcp, rfl, hp, hp1, hok, hid, hbl, hcc⟩ := (HCA.out w (Below.refl _ _)).at_ hlt
            have HPX := Lib.hid (show crs[j]? = some p.2 by rw [HCE.out, List.getElem?_map, hp]; rfl)
            have HSN := Lib.hid (fm_snoc certText HPX.out)
            have HPC := Lib.hid (cerV_cl (v := .slice P1_ pn pcp) rfl hok)
            have HB := Lib.hid (HBB.out _ HKB.out)
            have HC := Lib.hid (show ∀ i u, (certV (.slice P1_ pn pcp) p.2)[i]? = some u → w_.cell? ⟨b, off + j * 137 + i, none⟩ = some u from fun i u hu => bcell HB.out (hcc i u hu))
            have HFL := Lib.hid (fm_le certText 2009 j HCT2.out)
            have HL1 := Lib.hid (HCT2.out _ (List.mem_of_getElem? HPX.out))
            have HPT := Lib.hid (show pn ≤ 1000 by rw [← hid.2.1]; exact HPL.out _ (List.mem_of_getElem? HPX.out))
            have HPUT := Lib.hid (fun (w' : World) (hg : Grow w w') => cputo_any (A2 := P1_) (n2 := pn) (c2 := pcp) w' hok HPT.out (hid.grow hg))
            obtain ⟨cb, hcb⟩ : ∃ z, z = putCB p.2 := ⟨_, rfl⟩
            have HCB := Lib.hid (show certText p.2 = numB cb.length ++ cb by rw [hcb]; rfl)
            rw [HCB.out] at HSN HL1
            rw [← hcb] at HPUT
            obtain ⟨pv, hpv⟩ : ∃ z, z = certV (.slice P1_ pn pcp) p.2 := ⟨_, rfl⟩
            rw [← hpv] at HPC HC HPUT
            have hlc : cb.length ≤ 2009 := by have := HL1.out; rw [List.length_append] at this; omega
            obtain ⟨xs, hxs⟩ : ∃ z, z = p2 ++ (crs.take j).flatMap certText := ⟨_, rfl⟩
            have HXE := Lib.hid hxs
            have hxl : xs.length ≤ 3030 + 16 * 2009 := by rw [hxs, List.length_append]; have := HFL.out; omega
            rw [← hxs] at HP
            clear hp hp1 hok hid hbl hcc hcb hpv hxs HFL HPT HL1
            go_wp2_with (first | (with_reducible refine wpl_loadm (o := ⟨some 62, _, _, _, _, _⟩) rfl rfl row_cert HC.out rfl HPC.out.len ?_) | (with_reducible refine wpl_alloc (o := ⟨some 9, _, _, _, _, _⟩) rfl rfl zero_cert ?_))
            intro w1_ hb1_ hbw1_ hsz1_
            have HB1_ := Lib.hid (at_mk hb1_ len_cert)
            have HBW1_ := Lib.hid hbw1_
            have HZ1_ := Lib.hid hsz1_
            clear hb1_ hbw1_ hsz1_
            go_wp2_with (first | (with_reducible refine wpl_storeb (o := ⟨none, .store _ _ _, _, _, _, _⟩) rfl rfl row_cert HB1_.out.blk rfl rfl HB1_.out.len HPC.out.len HPC.out.one ?_))
            intro w2_ hb2_ hg2_ hsz2_
            have hb_ := var_grow HBW1_.out HZ1_.out hg2_
            have HX_ := Lib.hid (at_mk hb2_ HPC.out.len)
            clear hb2_ hg2_ hsz2_ HB1_ HBW1_ HZ1_
            have HB_ := Lib.hid (HB.out.grow' hb_)
            clear HB
            have HB := HB_
            clear HB_
            have HP_ := Lib.hid (HP.out.grow hb_)
            clear HP
            have HP := HP_
            clear HP_
            have HKB_ := Lib.hid (HKB.out.grow hb_)
            clear HKB
            have HKB := HKB_
            clear HKB_
            generalize hg_ : w_.heap.size = g9 at HX_ ⊢
            clear hg_
            have HE := HX_
            clear hb_ HX_
            clear w1_
            try clear w_
            rename World => w_
            clear HC HB
            go_wp2_with (first | (with_reducible refine wpl_loadb (o := ⟨some 63, _, _, _, _, _⟩) rfl rfl row_cert HE.out.blk rfl HE.out.len ?_))
            refine (HPUT.out _ (HBB.out _ HKB.out)).mono ?_
            rintro e w3_ ⟨TA, TC, rfl, ho_, hc_, hb_⟩
            have HO_ := Lib.hid ho_
            have HGW := Lib.hid hb_
            have HKB_ := Lib.hid (HKB.out.grow hb_)
            obtain ⟨tl2, htl2⟩ : ∃ z, z = cb.length := ⟨_, rfl⟩
            have HTE := Lib.hid htl2
            rw [← htl2] at HO_ hlc HSN ⊢
            clear HKB ho_ hc_ hb_ htl2 HE HPUT
            have HKB := HKB_
            clear HKB_
            go_wp2_with fail
            refine (ptexto_any gp xs _ _ HP.out HGW.out HTE.out.symm HO_.out (by omega)).mono ?_
            rintro e w2_ ⟨rfl, hp_, hk_⟩
            have HP_ := Lib.hid (show PenAt w2_ (KR gp 0 0) gp (p2 ++ (crs.take (j + 1)).flatMap certText) by rw [HSN.out, ← List.append_assoc, ← HXE.out]; exact hp_)
            have HKB_ := Lib.hid (HKB.out.keptR hk_)
            clear hp_ hk_ HP HKB HO_ HGW
            have HP := HP_; have HKB := HKB_
            clear HP_ HKB_
            try clear w_
            try clear w3_
            rename World => w_
            clear hlc hxl
            go_wp2_with fail
            go_roundw
            case rel => exact ⟨j + 1, by omega, by go_num, HP, HKB⟩
            case measure => simp [intOf]; omega
          · obtain rfl : j = n3 := by omega
            have HPN := Lib.hid (show PenAt w_ (KR gp 0 0) gp pc ∧ pc.length ≤ 100000 from by
              have h := HP.out
              rw [List.take_of_length_le (by rw [HCL.out]; exact Nat.le_refl _), ← PQ.out] at h
              refine ⟨h, ?_⟩
              have h2 := fm_len certText 2009 crs HCT2.out
              rw [HCL.out] at h2
              rw [PQ.out, List.length_append]; omega)
            go_wp2_with fail
            go_meet
            case rel => exact ⟨HPN, HKB⟩
  case rest =>
    obtain ⟨hp_, hk_⟩ := hcut
    clear HP HKB c0
    have HP := Lib.hid hp_.out.1; have hpl := hp_.out.2
    have HKB := hk_
    clear hp_ hk_
    try clear w_
    rename World => w_
    go_wp2_with fail
    refine (pbytes_any gp (KR gp 0 0) pc _ HP.out (by omega)).mono ?_
    rintro e w6 ⟨A', c', rfl, ho, hc, hg5⟩
    have HO5 := Lib.hid (own_base ho (HBB.out _ HKB.out).size)
    have HC5 := Lib.hid hc
    have HB6 := Lib.hid (show Grow w w6 from (HBB.out _ HKB.out).grow' hg5)
    clear ho hc hg5 HP HKB
    by_cases h8 : 8192 < pc.length
    · have HNI := Lib.hid (F22.out h8)
      have y8 : (8192 : Int) < (pc.length : Int) := by omega
      go_wp2_with fail
      go_ret2
      exact ⟨none, 0, by rw [HNI.out]; rfl, by rw [HNI.out]; exact World.ownsRow_nil _ _ _ _, by rw [HNI.out]; exact Nat.le_refl _, HB6.out⟩
    · have HNI := Lib.hid (F32.out h8)
      have y8 := lt_fe (a := 8192) (b := (pc.length : Int)) (by omega)
      go_wp2_with fail
      go_ret2
      exact ⟨A', c', by rw [HNI.out]; rfl, by rw [HNI.out]; exact HO5.out, by rw [HNI.out]; exact HC5.out, HB6.out⟩
end Go.Proofs.Ytobmldegjajocaa

/- The contract of tx.Put. Printed by mkput.py. -/
import Derived.Test.YtnnjjbkdjkjnpaaGreatDoorSpendOnceT15
import Derived.Test.YtnnjjbkdjkjnpaaGreatDoorSpendOnceT6
set_option linter.unusedSimpArgs false
/- The contract of tx.Put. Printed by mkput.py. -/
namespace Go.Proofs.YtnnjjbkdjkjnpaaGreatDoor
open Go.RowKit Go.Shelf
set_option linter.unusedVariables false
set_option maxRecDepth 100000 in
set_option maxHeartbeats 8000000 in
theorem tput_any {A : Option Addr} {n c : Nat} {A2 : Option Addr} {n2 c2 : Nat} {fee ex : Int} {l : List (Value × Inp)} {os : List Outp} (w : World) (hi : InsAt w A n c l) (ho : OutsAt w A2 n2 c2 os) (hn : n ≤ 100000) (hn2 : n2 ≤ 100000) (hf : U64 fee) (hex : I64 ex) :
    Calls Tryz.prog 75 #[.agg (txV A n c A2 n2 c2 fee ex).toArray] w fun e w' => ∃ A' c', e = .returned (.tuple #[.slice A' (tformB ⟨l.map Prod.snd, os, fee, ex⟩).length c', .int .i64 (checkT ⟨l.map Prod.snd, os, fee, ex⟩)]) ∧ Sl w' w'.heap.size 1 A' (tformB ⟨l.map Prod.snd, os, fee, ex⟩).length ((tformB ⟨l.map Prod.snd, os, fee, ex⟩).map B) ∧ (tformB ⟨l.map Prod.snd, os, fee, ex⟩).length ≤ c' ∧ Grow w w' := by
  have HI := Lib.hid hi; have HO := Lib.hid ho
  have HTC := Lib.hid (txV_cl (A := A) (n := n) (c := c) (A2 := A2) (n2 := n2) (c2 := c2) (fee := fee) (ex := ex))
  have HT0 := Lib.hid (show (txV A n c A2 n2 c2 fee ex)[0]? = some (.slice A n c) from rfl)
  have HT1 := Lib.hid (show (txV A n c A2 n2 c2 fee ex)[1]? = some (.slice A2 n2 c2) from rfl)
  have HT2 := Lib.hid (show (txV A n c A2 n2 c2 fee ex)[2]? = some (.int .u64 fee) from rfl)
  have HT3 := Lib.hid (show (txV A n c A2 n2 c2 fee ex)[3]? = some (.int .i64 ex) from rfl)
  have HCK := Lib.hid (fun w hi ho => tcheck_any (A := A) (n := n) (c := c) (A2 := A2) (n2 := n2) (c2 := c2) (fee := fee) (ex := ex) (l := l) (os := os) w hi ho hn hn2 hf hex)
  have HF := Lib.hid hf; have HEX := Lib.hid hex
  obtain ⟨t, ht⟩ : ∃ t, t = Txn.mk (l.map Prod.snd) os fee ex := ⟨_, rfl⟩
  rw [← ht] at HCK ⊢
  have HTE := Lib.hid ht
  obtain ⟨ck, hck⟩ : ∃ q, q = checkT t := ⟨_, rfl⟩
  have HCE := Lib.hid hck
  rw [← hck] at HCK ⊢
  obtain ⟨tf, htf⟩ : ∃ q, q = tformB t := ⟨_, rfl⟩
  rw [← htf]
  have HFN := Lib.hid (show ck ≠ 0 → tf = [] from fun h => by rw [htf]; unfold tformB; rw [if_neg (by rw [← hck]; exact h)])
  have HFY := Lib.hid (show ck = 0 → tf = putTB t from fun h => by rw [htf]; unfold tformB; rw [if_pos (by rw [← hck]; exact h)])
  have HSH := Lib.hid (show ck = 0 → (1 ≤ n ∧ n ≤ 16 ∧ 1 ≤ n2 ∧ n2 ≤ 16 ∧ 0 ≤ ex ∧ ex ≤ 1099511627776) ∧ ∀ p ∈ l, p.2.secret.length ≤ 64 ∧ 0 ≤ p.2.index ∧ p.2.index ≤ 15 from fun h => by
    obtain ⟨h1, h2⟩ := short_of (t := t) (by rw [← hck]; exact h)
    unfold shortT at h1
    rw [ht] at h1 h2
    simp only [Bool.and_eq_true, inB_iff, List.length_map] at h1
    have a := hi.2.2.1; have b := ho.2.2.1
    exact ⟨by omega, fun p hp => h2 _ (List.mem_map_of_mem hp)⟩)
  obtain ⟨tv, htv⟩ : ∃ q, q = txV A n c A2 n2 c2 fee ex := ⟨_, rfl⟩
  rw [← htv] at HTC HT0 HT1 HT2 HT3 HCK ⊢
  obtain ⟨w_, hw⟩ : ∃ x, x = w := ⟨_, rfl⟩
  have HB := Lib.hid (show Below w.heap.size w w_ by rw [hw]; exact Below.refl _ _)
  suffices H : Calls Tryz.prog 75 #[.agg tv.toArray] w_ fun e w' => ∃ A' c', e = .returned (.tuple #[.slice A' tf.length c', .int .i64 ck]) ∧ Sl w' w'.heap.size 1 A' tf.length (tf.map B) ∧ tf.length ≤ c' ∧ Grow w w' by rw [hw] at H; exact H
  clear hw hi ho ht hck htf htv hf hex
  go_enter Tryz.func75, Tryz.ntmps75
  go_wp2_with (first | (with_reducible refine wpl_box (o := ⟨some 1, _, _, _, _, _⟩) rfl rfl rfl ?_))
  intro w2_ hb2_ hb_ hsz2_
  have HX_ := Lib.hid (at_mk hb2_ HTC.out.len)
  clear hb2_ hsz2_
  have HG_ := Lib.hid HB.out.size
  have HB_ := Lib.hid (HB.out.grow' hb_)
  clear HB
  have HB := HB_
  clear HB_
  generalize hg_ : w_.heap.size = g1 at HX_ HG_ ⊢
  clear hg_
  have HX_g := HG_
  clear HG_
  have HX := HX_
  clear hb_ HX_
  try clear w_
  rename World => w_
  go_wp2_with (first | (with_reducible refine wpl_loadb (o := ⟨some 10, _, _, _, _, _⟩) rfl rfl row_tx HX.out.blk rfl HX.out.len ?_))
  refine (HCK.out _ (HI.out.grow HB.out) (HO.out.grow HB.out)).mono ?_
  rintro e w_ ⟨rfl, hb_⟩
  have HB_ := Lib.hid (HB.out.grow' hb_)
  clear HB
  have HB := HB_
  clear HB_
  have HX_ := Lib.hid (HX.out.grow hb_)
  clear HX
  have HX := HX_
  clear HX_
  clear hb_
  by_cases h0 : ck = 0
  · obtain ⟨hsh, hel⟩ := HSH.out h0
    have HEL := Lib.hid hel
    have HSHT := Lib.hid hsh
    have hn16 : n ≤ 16 := hsh.2.1
    have hm16 : n2 ≤ 16 := hsh.2.2.2.1
    obtain ⟨fn, hfn⟩ : ∃ q : Nat, fee = (q : Int) := ⟨fee.toNat, (Int.toNat_of_nonneg HF.out.1).symm⟩
    obtain ⟨en, hen⟩ : ∃ q : Nat, ex = (q : Int) := ⟨ex.toNat, (Int.toNat_of_nonneg hsh.2.2.2.2.1).symm⟩
    have HFU := Lib.hid (show fn ≤ 18446744073709551615 by have := HF.out.2; rw [hfn] at this; omega)
    have HEU := Lib.hid (show en ≤ 1099511627776 by have := hsh.2.2.2.2.2; rw [hen] at this; omega)
    have HPT := Lib.hid (show tf = numB n ++ (l.map Prod.snd).flatMap putI ++ numB n2 ++ os.flatMap putO ++ numB fn ++ numB en by
      rw [HFY.out h0, HTE.out]; unfold putTB; simp only [hfn, hen, Int.toNat_natCast, List.length_map]; rw [HI.out.2.2.1, HO.out.2.2.1])
    have HPI := Lib.hid (show ∀ x ∈ l.map Prod.snd, (putI x).length ≤ 130 from fun x hx => by
      obtain ⟨p, hp, rfl⟩ := List.mem_map.1 hx
      exact putI_len (HI.out.2.1 p hp).2 (hel p hp).1 (hel p hp).2)
    have HPO := Lib.hid (show ∀ x ∈ os, (putO x).length ≤ 50 from fun x hx => putO_len (HO.out.2.1 x hx))
    rw [hfn] at HT2
    rw [hen] at HT3
    clear hsh hel hfn hen
    subst h0
    go_wp2_with (first | (with_reducible refine wpl_alloc (o := ⟨some 5, _, _, _, _, _⟩) rfl rfl zero_pen ?_))
    intro w4 hb4 hbw4 hsz4
    obtain ⟨gp, hgp⟩ : ∃ q, q = w_.heap.size := ⟨_, rfl⟩
    have HG1 := Lib.hid (show g1 < gp ∧ w.heap.size ≤ gp by have h1 := HX.out.lt; have h2 := HB.out.size; omega)
    have HX4 := Lib.hid (HX.out.grow hbw4)
    have HB4 := Lib.hid (HB.out.grow' hbw4)
    rw [← hgp] at hb4 hsz4 ⊢
    have HP := Lib.hid (show PenAt w4 (K0 gp) gp [] from PenAt.new hb4 (fun k hk => by unfold K0 at hk; omega))
    have HKB := Lib.hid (show KB gp w4 w4 from ⟨Below.refl _ _, by omega⟩)
    have HXB := Lib.hid (show ∀ w', KB gp w4 w' → At w' g1 27 4 tv from fun w' h => ⟨HX4.out.blk.below h.1 HG1.out.1, HX4.out.len⟩)
    have HBB := Lib.hid (show ∀ w', KB gp w4 w' → Below w.heap.size w w' from fun w' h => HB4.out.trans (h.1.mono HG1.out.2))
    have HKP := Lib.hid (show ∀ (w' : World) (xs : List UInt8), KB gp w4 w' → PenAt w' (K0 gp) gp xs → PenAt w' (Kq gp g1) gp xs from fun w' xs h hp => hp.plus (HXB.out _ h).blk (by decide) (by have := HG1.out.1; omega))
    clear hb4 hbw4 hsz4 hgp HX HB HX4
    have qn := conv_u64' (n := n) (by omega)
    have c0 := (HXB.out _ HKB.out).blk.at_ HT0.out
    go_wp2_with fail
    refine (num_any gp n (Kq gp g1) [] _ (HKP.out _ _ HKB.out HP.out) (by simp) (by omega)).mono ?_
    rintro e w2_ ⟨rfl, hp_, hk_⟩
    have HP_ := Lib.hid hp_.minus
    have HKB_ := Lib.hid (HKB.out.kept hk_)
    clear hp_ hk_ HP HKB
    have HP := HP_; have HKB := HKB_
    clear HP_ HKB_
    try clear w_
    rename World => w_
    have HP_ := Lib.hid (show PenAt w_ (K0 gp) gp (numB n) from HP.out)
    clear HP c0 qn
    have HP := HP_
    clear HP_
    have ln := numB_le (n := n) (by omega); have lm := numB_le (n := n2) (by omega)
    have c0 := (HXB.out _ HKB.out).blk.at_ HT0.out
    obtain ⟨pre, hpre⟩ : ∃ q, q = numB n := ⟨_, rfl⟩
    have HPR := Lib.hid hpre
    have hprl : pre.length ≤ 9 := by rw [hpre]; exact ln
    rw [← hpre] at HP HPT
    clear hpre ln
    obtain ⟨ins, hins⟩ : ∃ q, q = l.map Prod.snd := ⟨_, rfl⟩
    have HINS := Lib.hid hins
    have HINL := Lib.hid (show ins.length = n by rw [hins, List.length_map]; exact HI.out.2.2.1)
    rw [← hins] at HPT HPI
    clear hins
    go_upto_block 0 with fail
    go_cut [] from 10 (fun wr => Hid (PenAt wr (K0 gp) gp (pre ++ ins.flatMap putI) ∧ KB gp w4 wr))
    case first =>
      go_wp2_with fail
      go_loopw [23] (fun iv wr => ∃ k : Nat, k ≤ n ∧ iv = .int .i64 k ∧ Hid (PenAt wr (K0 gp) gp (pre ++ (ins.take k).flatMap putI) ∧ KB gp w4 wr)) (fun iv _ => n - (intOf iv).toNat)
      case atStart => exact ⟨0, by omega, rfl, Lib.hid ⟨by simpa using HP.out, HKB.out⟩⟩
      case round =>
        obtain ⟨k, hk, rfl, hI⟩ := hrel
        clear HP HKB c0
        have HP := Lib.hid hI.out.1; have HKB := Lib.hid hI.out.2
        clear hI
        rename World => w_
        by_cases hlt : k < n
        · obtain ⟨b, off, p, hA, hp, hok, hc⟩ := HI.out.at_ hlt
          subst hA
          have HBW := Lib.hid (HBB.out _ HKB.out)
          obtain ⟨hsl, hix0, hix1⟩ := HEL.out p (List.mem_of_getElem? hp)
          have HC := Lib.hid (show ∀ j u, (inV p.1 p.2)[j]? = some u → w_.cell? ⟨b, off + k * 35 + j, none⟩ = some u from fun j u hu => bcell HBW.out (hc j u hu))
          have HPC := Lib.hid (inV_cl hok)
          have HSN := Lib.hid (fm_snoc putI (l := ins) (k := k) (p := p.2) (by rw [HINS.out, List.getElem?_map, hp]; rfl))
          obtain ⟨⟨A4, c4, e4, hc4, hs4⟩, hio⟩ := hok
          have HS4 := Lib.hid hs4
          have HFL := Lib.hid (fm_le putI 130 k HPI.out)
          have HA32 := Lib.hid (in_at (v := p.1) hio)
          have HDG := Lib.hid (dig_map hio.1)
          have HTX := Lib.hid (show ∀ (j : Nat) (u : Value), (p.2.tx.map B)[j]? = some u → (inV p.1 p.2)[0 + j]? = some u from fun j u hu => by
            rw [Nat.zero_add]; unfold inV; rw [List.getElem?_append_left (List.getElem?_eq_some_iff.1 hu).1]; exact hu)
          obtain ⟨pv, hpv⟩ : ∃ q, q = inV p.1 p.2 := ⟨_, rfl⟩
          rw [← hpv] at HC HPC HA32 HTX
          rw [e4] at HA32
          obtain ⟨xn, hxn⟩ : ∃ q : Nat, p.2.index = (q : Int) := ⟨p.2.index.toNat, (Int.toNat_of_nonneg hix0).symm⟩
          obtain ⟨an, han⟩ : ∃ q : Nat, p.2.amount = (q : Int) := ⟨p.2.amount.toNat, (Int.toNat_of_nonneg hio.2.2.1).symm⟩
          have HAU := Lib.hid (show an ≤ 18446744073709551615 by have := hio.2.2.2; rw [han] at this; omega)
          have hxb : xn ≤ 15 := by rw [hxn] at hix1; omega
          obtain ⟨sl, hsl2⟩ : ∃ q, q = p.2.secret.length := ⟨_, rfl⟩
          obtain ⟨tx, htx⟩ : ∃ q, q = p.2.tx := ⟨_, rfl⟩
          obtain ⟨sc, hsc⟩ : ∃ q, q = p.2.secret := ⟨_, rfl⟩
          have HPU := Lib.hid (show putI p.2 = tx ++ numB xn ++ numB an ++ numB sl ++ sc by unfold putI; rw [hxn, han, ← htx, ← hsc, hsl2, hsc]; simp only [Int.toNat_natCast])
          have htl : tx.length = 32 := by rw [htx]; exact hio.1
          have hslb : sl ≤ 64 := by rw [hsl2]; exact hsl
          rw [hxn, han, ← hsl2] at HA32
          rw [← htx] at HTX HDG
          rw [← hsl2, ← hsc] at HS4
          obtain ⟨xs, hxs⟩ : ∃ q, q = pre ++ (ins.take k).flatMap putI := ⟨_, rfl⟩
          have HXE := Lib.hid hxs
          have hxl : xs.length ≤ 9 + 16 * 130 := by rw [hxs, List.length_append]; have := HFL.out; omega
          rw [← hxs] at HP
          clear hp hc hsl hix0 hix1 e4 hc4 hs4 hio hpv hxn han hsl2 htx hsc hxs HFL HBW
          have u1 := numB_le (n := xn) (by omega); have u2 := numB_le (n := an) HAU.out; have u3 := numB_le (n := sl) (by omega)
          have HB := Lib.hid (HBB.out _ HKB.out)
          go_wp2_with (first | (with_reducible refine wpl_loadm (o := ⟨some 26, _, _, _, _, _⟩) rfl rfl row_tin HC.out rfl HPC.out.len ?_) | (with_reducible refine wpl_alloc (o := ⟨some 7, _, _, _, _, _⟩) rfl rfl zero_tin ?_))
          intro w1_ hb1_ hbw1_ hsz1_
          have HB1_ := Lib.hid (at_mk hb1_ len_tin)
          have HBW1_ := Lib.hid hbw1_
          have HZ1_ := Lib.hid hsz1_
          clear hb1_ hbw1_ hsz1_
          go_wp2_with (first | (with_reducible refine wpl_storeb (o := ⟨none, .store _ _ _, _, _, _, _⟩) rfl rfl row_tin HB1_.out.blk rfl rfl HB1_.out.len HPC.out.len HPC.out.one ?_))
          intro w2_ hb2_ hg2_ hsz2_
          have hb_ := var_grow HBW1_.out HZ1_.out hg2_
          have HX_ := Lib.hid (at_mk hb2_ HPC.out.len)
          clear hb2_ hg2_ hsz2_ HB1_ HBW1_ HZ1_
          have HB_ := Lib.hid (HB.out.grow' hb_)
          clear HB
          have HB := HB_
          clear HB_
          have HP_ := Lib.hid (HP.out.grow hb_)
          clear HP
          have HP := HP_
          clear HP_
          have HKB_ := Lib.hid (HKB.out.grow hb_)
          clear HKB
          have HKB := HKB_
          clear HKB_
          generalize hg_ : w_.heap.size = g7 at HX_ ⊢
          clear hg_
          have HE := HX_
          clear hb_ HX_
          clear w1_
          try clear w_
          rename World => w_
          clear HB HC
          have HGQ := Lib.hid (show g7 ≠ gp from fun e => by
            obtain ⟨_, _, h1, _⟩ := HP.out
            have h2 := HE.out.blk
            rw [e] at h2
            unfold Blk at h1 h2
            rw [h1] at h2
            injection h2 with h2
            injection h2 with _ h2
            exact absurd h2 (by decide))
          have HP_ := Lib.hid (HP.out.plus HE.out.blk (by decide) HGQ.out)
          clear HP
          have HP := HP_
          clear HP_
          have HM := Lib.hid (show ∀ (j : Nat) (u : Value), (tx.map B)[j]? = some u → w_.cell? ⟨g7, 0 + j, none⟩ = some u from fun j u hu => HE.out.blk.at_ (HTX.out j u hu))
          go_wp2_with (first | (with_reducible refine wpl_loadm (o := ⟨some 29, _, _, _, _, _⟩) rfl rfl row_id HM.out rfl HDG.out.len ?_))
          clear HM
          go_wp2_with fail
          refine (pid_any gp (Kq gp g7) xs HDG.out _ HP.out (by omega)).mono ?_
          rintro e w2_ ⟨rfl, hp_, hk_⟩
          have HP_ := Lib.hid hp_
          have HKB_ := Lib.hid (HKB.out.kept hk_)
          have HE_ := Lib.hid (HE.out.kept hk_)
          clear hp_ hk_ HP HKB HE
          have HP := HP_; have HKB := HKB_; have HE := HE_
          clear HP_ HKB_ HE_
          try clear w_
          rename World => w_
          have c32 := HE.out.blk.at_ HA32.out.1
          have q2 := conv_u64' (n := xn) (by omega)
          go_wp2_with fail
          refine (num_any gp xn (Kq gp g7) (xs ++ tx) _ HP.out (by clear q2; rw [List.length_append]; omega) (by clear q2; omega)).mono ?_
          rintro e w2_ ⟨rfl, hp_, hk_⟩
          have HP_ := Lib.hid hp_
          have HKB_ := Lib.hid (HKB.out.kept hk_)
          have HE_ := Lib.hid (HE.out.kept hk_)
          clear hp_ hk_ HP HKB HE
          have HP := HP_; have HKB := HKB_; have HE := HE_
          clear HP_ HKB_ HE_
          try clear w_
          rename World => w_
          clear c32 q2
          have c33 := HE.out.blk.at_ HA32.out.2.1
          go_wp2_with fail
          refine (num_any gp an (Kq gp g7) (xs ++ tx ++ numB xn) _ HP.out (by rw [List.length_append, List.length_append]; omega) HAU.out).mono ?_
          rintro e w2_ ⟨rfl, hp_, hk_⟩
          have HP_ := Lib.hid hp_
          have HKB_ := Lib.hid (HKB.out.kept hk_)
          have HE_ := Lib.hid (HE.out.kept hk_)
          clear hp_ hk_ HP HKB HE
          have HP := HP_; have HKB := HKB_; have HE := HE_
          clear HP_ HKB_ HE_
          try clear w_
          rename World => w_
          clear c33
          have c34 := HE.out.blk.at_ HA32.out.2.2
          have HS5 := Lib.hid (HS4.out.below (HBB.out _ HKB.out))
          go_wp2_with fail
          refine (ptext_any gp (Kq gp g7) (xs ++ tx ++ numB xn ++ numB an) _ HP.out HS5.out (fun j hj => .inl (Nat.lt_of_lt_of_le hj HG1.out.2)) (by rw [List.length_append, List.length_append, List.length_append]; omega)).mono ?_
          rintro e w2_ ⟨rfl, hp_, hk_⟩
          have HP_ := Lib.hid hp_.minus
          have HKB_ := Lib.hid (HKB.out.kept hk_)
          clear hp_ hk_ HP HKB HE
          have HP := HP_; have HKB := HKB_
          clear HP_ HKB_
          try clear w_
          rename World => w_
          clear c34 HS5
          have HPN := Lib.hid (show PenAt w_ (K0 gp) gp (pre ++ (ins.take (k + 1)).flatMap putI) by
            rw [HSN.out, HPU.out, ← List.append_assoc, ← HXE.out]
            have h := HP.out
            simp only [List.append_assoc] at h ⊢
            exact h)
          clear HP u1 u2 u3
          go_wp2_with fail
          go_roundw
          case rel => exact ⟨k + 1, by omega, by go_num, Lib.hid ⟨HPN.out, HKB.out⟩⟩
          case measure => simp [intOf]; omega
        · obtain rfl : k = n := by omega
          have HP_ := Lib.hid (show PenAt w_ (K0 gp) gp (pre ++ ins.flatMap putI) by have h := HP.out; rw [List.take_of_length_le (by rw [HINL.out]; exact Nat.le_refl _)] at h; exact h)
          go_wp2_with fail
          go_meet
          case rel => exact Lib.hid ⟨HP_.out, HKB.out⟩
    case rest =>
      clear HP HKB c0
      have HP := Lib.hid hcut.out.1; have HKB := Lib.hid hcut.out.2
      clear hcut
      try clear w_
      rename World => w_
      have HFL := Lib.hid (show (ins.flatMap putI).length ≤ n * 130 by have h := fm_len putI 130 ins HPI.out; rw [HINL.out] at h; exact h)
      obtain ⟨p1, hp1⟩ : ∃ q, q = pre ++ ins.flatMap putI := ⟨_, rfl⟩
      have hp1l : p1.length ≤ 9 + 16 * 130 := by rw [hp1, List.length_append]; have := HFL.out; omega
      rw [← hp1] at HP HPT
      clear hp1 HFL hprl
      have c1 := (HXB.out _ HKB.out).blk.at_ HT1.out
      have qm := conv_u64' (n := n2) (by omega)
      go_wp2_with fail
      refine (num_any gp n2 (Kq gp g1) p1 _ (HKP.out _ _ HKB.out HP.out) (by clear qm; omega) (by clear qm; omega)).mono ?_
      rintro e w2_ ⟨rfl, hp_, hk_⟩
      have HP_ := Lib.hid hp_.minus
      have HKB_ := Lib.hid (HKB.out.kept hk_)
      clear hp_ hk_ HP HKB
      have HP := HP_; have HKB := HKB_
      clear HP_ HKB_
      try clear w_
      rename World => w_
      clear c1 qm
      obtain ⟨p2, hp2⟩ : ∃ q, q = p1 ++ numB n2 := ⟨_, rfl⟩
      have hp2l : p2.length ≤ 18 + 16 * 130 := by rw [hp2, List.length_append]; omega
      rw [← hp2] at HP HPT
      clear hp2 lm hp1l
      have c1 := (HXB.out _ HKB.out).blk.at_ HT1.out
      go_upto_block 2 with fail
      go_cut [] from 10 (fun wr => Hid (PenAt wr (K0 gp) gp (p2 ++ os.flatMap putO) ∧ KB gp w4 wr))
      case first =>
        go_wp2_with fail
        go_loopw [51] (fun iv wr => ∃ k : Nat, k ≤ n2 ∧ iv = .int .i64 k ∧ Hid (PenAt wr (K0 gp) gp (p2 ++ (os.take k).flatMap putO) ∧ KB gp w4 wr)) (fun iv _ => n2 - (intOf iv).toNat)
        case atStart => exact ⟨0, by omega, rfl, Lib.hid ⟨by simpa using HP.out, HKB.out⟩⟩
        case round =>
          obtain ⟨k, hk, rfl, hI⟩ := hrel
          clear HP HKB c1
          have HP := Lib.hid hI.out.1; have HKB := Lib.hid hI.out.2
          clear hI
          rename World => w_
          by_cases hlt : k < n2
          · obtain ⟨b, off, p, hA, hp, hok, hc⟩ := HO.out.at_ hlt
            subst hA
            have HB := Lib.hid (HBB.out _ HKB.out)
            have HC := Lib.hid (show ∀ j u, (outV p)[j]? = some u → w_.cell? ⟨b, off + k * 33 + j, none⟩ = some u from fun j u hu => bcell HB.out (hc j u hu))
            have HPC := Lib.hid (outV_cl hok)
            have HSN := Lib.hid (fm_snoc putO hp)
            have HFL := Lib.hid (fm_le putO 50 k HPO.out)
            have HA32 := Lib.hid (out_at hok)
            have HDG := Lib.hid (dig_map hok.1)
            have HTX := Lib.hid (show ∀ (j : Nat) (u : Value), (p.owner.map B)[j]? = some u → (outV p)[0 + j]? = some u from fun j u hu => by
              rw [Nat.zero_add]; unfold outV; rw [List.getElem?_append_left (List.getElem?_eq_some_iff.1 hu).1]; exact hu)
            obtain ⟨pv, hpv⟩ : ∃ q, q = outV p := ⟨_, rfl⟩
            rw [← hpv] at HC HPC HA32 HTX
            obtain ⟨an, han⟩ : ∃ q : Nat, p.amount = (q : Int) := ⟨p.amount.toNat, (Int.toNat_of_nonneg hok.2.1).symm⟩
            have HAU := Lib.hid (show an ≤ 18446744073709551615 by have := hok.2.2; rw [han] at this; omega)
            obtain ⟨tx, htx⟩ : ∃ q, q = p.owner := ⟨_, rfl⟩
            have HPU := Lib.hid (show putO p = tx ++ numB an by unfold putO; rw [han, ← htx]; simp only [Int.toNat_natCast])
            have htl : tx.length = 32 := by rw [htx]; exact hok.1
            rw [han] at HA32
            rw [← htx] at HTX HDG
            obtain ⟨xs, hxs⟩ : ∃ q, q = p2 ++ (os.take k).flatMap putO := ⟨_, rfl⟩
            have HXE := Lib.hid hxs
            have hxl : xs.length ≤ 18 + 16 * 130 + 16 * 50 := by rw [hxs, List.length_append]; have := HFL.out; omega
            rw [← hxs] at HP
            clear hp hc hok hpv han htx hxs HFL
            have u2 := numB_le (n := an) HAU.out
            go_wp2_with (first | (with_reducible refine wpl_loadm (o := ⟨some 54, _, _, _, _, _⟩) rfl rfl row_tout HC.out rfl HPC.out.len ?_) | (with_reducible refine wpl_alloc (o := ⟨some 9, _, _, _, _, _⟩) rfl rfl zero_tout ?_))
            intro w1_ hb1_ hbw1_ hsz1_
            have HB1_ := Lib.hid (at_mk hb1_ len_tout)
            have HBW1_ := Lib.hid hbw1_
            have HZ1_ := Lib.hid hsz1_
            clear hb1_ hbw1_ hsz1_
            go_wp2_with (first | (with_reducible refine wpl_storeb (o := ⟨none, .store _ _ _, _, _, _, _⟩) rfl rfl row_tout HB1_.out.blk rfl rfl HB1_.out.len HPC.out.len HPC.out.one ?_))
            intro w2_ hb2_ hg2_ hsz2_
            have hb_ := var_grow HBW1_.out HZ1_.out hg2_
            have HX_ := Lib.hid (at_mk hb2_ HPC.out.len)
            clear hb2_ hg2_ hsz2_ HB1_ HBW1_ HZ1_
            have HB_ := Lib.hid (HB.out.grow' hb_)
            clear HB
            have HB := HB_
            clear HB_
            have HP_ := Lib.hid (HP.out.grow hb_)
            clear HP
            have HP := HP_
            clear HP_
            have HKB_ := Lib.hid (HKB.out.grow hb_)
            clear HKB
            have HKB := HKB_
            clear HKB_
            generalize hg_ : w_.heap.size = g7 at HX_ ⊢
            clear hg_
            have HE := HX_
            clear hb_ HX_
            clear w1_
            try clear w_
            rename World => w_
            clear HB HC
            have HGQ := Lib.hid (show g7 ≠ gp from fun e => by
              obtain ⟨_, _, h1, _⟩ := HP.out
              have h2 := HE.out.blk
              rw [e] at h2
              unfold Blk at h1 h2
              rw [h1] at h2
              injection h2 with h2
              injection h2 with _ h2
              exact absurd h2 (by decide))
            have HP_ := Lib.hid (HP.out.plus HE.out.blk (by decide) HGQ.out)
            clear HP
            have HP := HP_
            clear HP_
            have HM := Lib.hid (show ∀ (j : Nat) (u : Value), (tx.map B)[j]? = some u → w_.cell? ⟨g7, 0 + j, none⟩ = some u from fun j u hu => HE.out.blk.at_ (HTX.out j u hu))
            go_wp2_with (first | (with_reducible refine wpl_loadm (o := ⟨some 56, _, _, _, _, _⟩) rfl rfl row_id HM.out rfl HDG.out.len ?_))
            clear HM
            go_wp2_with fail
            refine (pid_any gp (Kq gp g7) xs HDG.out _ HP.out (by omega)).mono ?_
            rintro e w2_ ⟨rfl, hp_, hk_⟩
            have HP_ := Lib.hid hp_
            have HKB_ := Lib.hid (HKB.out.kept hk_)
            have HE_ := Lib.hid (HE.out.kept hk_)
            clear hp_ hk_ HP HKB HE
            have HP := HP_; have HKB := HKB_; have HE := HE_
            clear HP_ HKB_ HE_
            try clear w_
            rename World => w_
            have c33 := HE.out.blk.at_ HA32.out
            go_wp2_with fail
            refine (num_any gp an (Kq gp g7) (xs ++ tx) _ HP.out (by rw [List.length_append]; omega) HAU.out).mono ?_
            rintro e w2_ ⟨rfl, hp_, hk_⟩
            have HP_ := Lib.hid hp_.minus
            have HKB_ := Lib.hid (HKB.out.kept hk_)
            clear hp_ hk_ HP HKB HE
            have HP := HP_; have HKB := HKB_
            clear HP_ HKB_
            try clear w_
            rename World => w_
            clear c33
            have HPN := Lib.hid (show PenAt w_ (K0 gp) gp (p2 ++ (os.take (k + 1)).flatMap putO) by
              rw [HSN.out, HPU.out, ← List.append_assoc, ← HXE.out]
              have h := HP.out
              simp only [List.append_assoc] at h ⊢
              exact h)
            clear HP u2
            go_wp2_with fail
            go_roundw
            case rel => exact ⟨k + 1, by omega, by go_num, Lib.hid ⟨HPN.out, HKB.out⟩⟩
            case measure => simp [intOf]; omega
          · obtain rfl : k = n2 := by omega
            have HP_ := Lib.hid (show PenAt w_ (K0 gp) gp (p2 ++ os.flatMap putO) by have h := HP.out; rw [List.take_of_length_le (by rw [HO.out.2.2.1]; exact Nat.le_refl _)] at h; exact h)
            go_wp2_with fail
            go_meet
            case rel => exact Lib.hid ⟨HP_.out, HKB.out⟩
      case rest =>
        clear HP HKB c1
        have HP := Lib.hid hcut.out.1; have HKB := Lib.hid hcut.out.2
        clear hcut
        try clear w_
        rename World => w_
        have HFL := Lib.hid (show (os.flatMap putO).length ≤ n2 * 50 by have h := fm_len putO 50 os HPO.out; rw [HO.out.2.2.1] at h; exact h)
        obtain ⟨p3, hp3⟩ : ∃ q, q = p2 ++ os.flatMap putO := ⟨_, rfl⟩
        have hp3l : p3.length ≤ 18 + 16 * 130 + 16 * 50 := by rw [hp3, List.length_append]; have := HFL.out; omega
        rw [← hp3] at HP HPT
        clear hp3 HFL hp2l
        have uf := numB_le (n := fn) HFU.out
        have ue := numB_le (n := en) (by have := HEU.out; omega)
        have c2 := (HXB.out _ HKB.out).blk.at_ HT2.out
        go_wp2_with fail
        refine (num_any gp fn (Kq gp g1) p3 _ (HKP.out _ _ HKB.out HP.out) (by omega) HFU.out).mono ?_
        rintro e w2_ ⟨rfl, hp_, hk_⟩
        have HP_ := Lib.hid hp_.minus
        have HKB_ := Lib.hid (HKB.out.kept hk_)
        clear hp_ hk_ HP HKB
        have HP := HP_; have HKB := HKB_
        clear HP_ HKB_
        try clear w_
        rename World => w_
        clear c2
        have c3 := (HXB.out _ HKB.out).blk.at_ HT3.out
        have qe := conv_u64' (n := en) (by have := HEU.out; omega)
        go_wp2_with fail
        refine (num_any gp en (Kq gp g1) (p3 ++ numB fn) _ (HKP.out _ _ HKB.out HP.out) (by clear qe; rw [List.length_append]; omega) (by have := HEU.out; clear qe; omega)).mono ?_
        rintro e w2_ ⟨rfl, hp_, hk_⟩
        have HP_ := Lib.hid hp_.minus
        have HKB_ := Lib.hid (HKB.out.kept hk_)
        clear hp_ hk_ HP HKB
        have HP := HP_; have HKB := HKB_
        clear HP_ HKB_
        try clear w_
        rename World => w_
        clear c3 qe
        rw [← HPT.out] at HP
        have HTL := Lib.hid (show tf.length ≤ 100000 by rw [HPT.out]; simp only [List.length_append]; omega)
        go_wp2_with fail
        refine (pbytes_any gp (K0 gp) tf _ HP.out (by have := HTL.out; omega)).mono ?_
        rintro e w6 ⟨A', c', rfl, ho, hc, hg5⟩
        have HO5 := Lib.hid (Sl.of_own ho)
        have HC5 := Lib.hid hc
        have HB6 := Lib.hid (show Grow w w6 from (HBB.out _ HKB.out).grow' hg5)
        clear ho hc hg5
        go_wp2_with fail
        go_ret2
        exact ⟨A', c', rfl, HO5.out, HC5.out, HB6.out⟩
  · have d0 : (ck != 0) = true := by simpa using h0
    have HNI := Lib.hid (HFN.out h0)
    clear h0
    go_wp2_with fail
    go_ret2
    refine ⟨none, 0, ?_⟩
    rw [HNI.out]
    exact ⟨rfl, Sl.nil, Nat.le_refl _, HB.out⟩
end Go.Proofs.YtnnjjbkdjkjnpaaGreatDoor
/- The contract of the document's Put of a transaction. Printed by mkrtput.py. -/
namespace Go.Proofs.YtnnjjbkdjkjnpaaGreatDoor
open Go.RowKit Go.Shelf
set_option linter.unusedVariables false
end Go.Proofs.YtnnjjbkdjkjnpaaGreatDoor

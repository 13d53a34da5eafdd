/- The document's coins: a row of outputs with coins; its sum. -/
import Derived.Test.YtolbbhbfbpiljaaCoinsPlayB8
import Derived.Test.YtolbbhbfbpiljaaCoinsPlayB10
set_option linter.unusedSimpArgs false
/- The document's coins: a row of outputs with coins; its sum. -/
namespace Go.Proofs.Ytolbbhbfbpiljaa
open Go.RowKit
set_option linter.unusedVariables false
def encAtC (e : PtK × CoinV) : List Value := ptV e.1 ++ coinV e.2
def AtOKC (e : PtK × CoinV) : Prop := PtOK e.1 ∧ CoinOK e.2
theorem encAtC_len {e : PtK × CoinV} (h : AtOKC e) : (encAtC e).length = 66 := by unfold encAtC; rw [List.length_append, ptV_length h.1.1, coinV_length h.2]
def RowC (w : World) (A : Option Addr) (n : Nat) (l : CoinsL) : Prop := Sl w w.heap.size 66 A n (l.flatMap encAtC) ∧ (∀ e ∈ l, AtOKC e) ∧ l.length = n
theorem RowC.call {w w' : World} {A : Option Addr} {n : Nat} {l : CoinsL} (h : RowC w A n l) (hb : Below w.heap.size w w') : RowC w' A n l := ⟨(h.1.below hb).more hb.size, h.2⟩
theorem RowC.at_ {w : World} {A : Option Addr} {n : Nat} {l : CoinsL} (h : RowC w A n l) {k : Nat} (hk : k < n) :
    ∃ b off e, A = some ⟨b, off, none⟩ ∧ b < w.heap.size ∧ l[k]? = some e ∧ AtOKC e ∧ ∀ j u, (encAtC e)[j]? = some u → w.cell? ⟨b, off + k * 66 + j, none⟩ = some u := by
  obtain ⟨hs, ho, hl⟩ := h
  obtain ⟨b, off, e, hb, hc⟩ := hs.2 (by omega)
  have hk2 : k < l.length := by omega
  refine ⟨b, off, l[k], e, hb, List.getElem?_eq_getElem hk2, ho _ (List.getElem_mem hk2), fun j u hu => ?_⟩
  have h2 := hc (k * 66 + j) u (fm_at3 encAtC 66 l k j _ u (fun y hy => encAtC_len (ho y hy)) (List.getElem?_eq_getElem hk2) hu)
  rw [← Nat.add_assoc] at h2; exact h2
theorem encAtC_amt {e : PtK × CoinV} (h : AtOKC e) : (encAtC e)[65]? = some (.int .u64 e.2.2) := by
  have h1 := ptV_length h.1.1
  unfold encAtC
  rw [List.getElem?_append_right (by omega), h1]
  unfold coinV
  rw [List.getElem?_append_right (by simp [h.2.1])]; simp [h.2.1]
def amtC (l : CoinsL) : Int := (l.map fun e => e.2.2).sum
theorem amtC_snoc {l : CoinsL} {k : Nat} {e : PtK × CoinV} (h : l[k]? = some e) : amtC (l.take (k + 1)) = amtC (l.take k) + e.2.2 := by
  unfold amtC
  rw [List.take_add_one, h, List.map_append, List.sum_append_int]; simp
theorem amtC_nn : ∀ {l : CoinsL}, (∀ e ∈ l, AtOKC e) → 0 ≤ amtC l
  | [], _ => by simp [amtC]
  | e :: l, h => by
    have h1 := amtC_nn (l := l) (fun x hx => h x (List.mem_cons_of_mem _ hx))
    have h2 := (h e (List.mem_cons_self ..)).2.2.1
    unfold amtC at h1 ⊢
    rw [List.map_cons, List.sum_cons]; omega
theorem amtC_le {l : CoinsL} (h : ∀ e ∈ l, AtOKC e) (k : Nat) : amtC (l.take k) ≤ amtC l := by
  have h1 := amtC_nn (l := l.drop k) (fun x hx => h x (List.mem_of_mem_drop hx))
  have h2 : amtC l = amtC (l.take k) + amtC (l.drop k) := by
    unfold amtC
    rw [← List.sum_append_int, ← List.map_append, List.take_append_drop]
  omega
set_option maxRecDepth 100000 in
set_option maxHeartbeats 1000000 in
theorem rsum19_any {A : Option Addr} {n c : Nat} {l : CoinsL} (w : World) (h : RowC w A n l) (hn : n ≤ 1000000) (hs : amtC l ≤ 18446744073709551615) :
    Calls Try.prog 60 #[.slice A n c] w fun e w' => e = .returned (.int .u64 (amtC l)) ∧ w = w' := by
  have HH := Lib.hid h
  have HN := Lib.hid (fun k => amtC_nn (l := l.take k) (fun x hx => h.2.1 x (List.mem_of_mem_take hx)))
  have HL := Lib.hid (fun k => amtC_le h.2.1 k)
  clear h
  go_enter Try.func60, Try.ntmps60
  go_wp2_with fail
  go_loopw [3, 4] (fun s3 iv wr => ∃ k : Nat, k ≤ n ∧ iv = .int .i64 k ∧ s3 = .int .u64 (amtC (l.take k)) ∧ Hid (w = wr)) (fun _ iv _ => n - (intOf iv).toNat)
  case atStart => exact ⟨0, by omega, rfl, rfl, Lib.hid rfl⟩
  case round =>
    obtain ⟨k, hk, rfl, rfl, hI⟩ := hrel
    obtain rfl := hI.out
    by_cases hlt : k < n
    · obtain ⟨b, off, e, rfl, _, he, hok, hc⟩ := HH.out.at_ hlt
      have c1 := hc 65 _ (encAtC_amt hok)
      have h1 := HN.out (k + 1); have h2 := HL.out (k + 1)
      have HSN := Lib.hid (amtC_snoc he)
      rw [HSN.out] at h1 h2
      have v1 : IntKind.u64.wrap (amtC (l.take k) + e.2.2) = amtC (l.take k) + e.2.2 := u64_in _ ⟨by omega, by omega⟩
      clear he hok hc
      obtain ⟨sk, hsk⟩ : ∃ q, q = amtC (l.take k) := ⟨_, rfl⟩
      rw [← hsk] at HSN h1 h2 v1 ⊢
      clear hsk
      go_wp2_with fail
      go_roundw
      case rel => exact ⟨k + 1, by omega, by go_num, by rw [HSN.out], Lib.hid (by first | trivial | rfl)⟩
      case measure => simp [intOf]; omega
    · obtain rfl : k = n := by omega
      have HE := Lib.hid (show l.take k = l from List.take_of_length_le (by rw [HH.out.2.2]; exact Nat.le_refl _))
      rw [HE.out]
      go_wp2_with fail
      go_ret
      exact ⟨rfl, rfl⟩
end Go.Proofs.Ytolbbhbfbpiljaa

/- The document's coins: Get. -/
namespace Go.Proofs.Ytolbbhbfbpiljaa
open Go.RowKit
set_option linter.unusedVariables false
theorem encAtC_pt {e : PtK × CoinV} (h : AtOKC e) {j : Nat} {u : Value} (hu : (ptV e.1)[j]? = some u) : (encAtC e)[0 + j]? = some u := by
  unfold encAtC; rw [Nat.zero_add, List.getElem?_append_left (List.getElem?_eq_some_iff.1 hu).1]; exact hu
theorem encAtC_coin {e : PtK × CoinV} (h : AtOKC e) {j : Nat} {u : Value} (hu : (coinV e.2)[j]? = some u) : (encAtC e)[33 + j]? = some u := by
  have h1 := ptV_length h.1.1
  unfold encAtC; rw [List.getElem?_append_right (by omega), h1, show 33 + j - 33 = j by omega]; exact hu
theorem lookC_first {l : CoinsL} {p : PtK} {k : Nat} {e : PtK × CoinV} (he : l[k]? = some e) (hp : e.1 = p) (hn : ∀ x ∈ l.take k, x.1 ≠ p) : lookC l p = some e.2 := by
  have h1 : l = l.take k ++ e :: l.drop (k + 1) := by
    have hk := (List.getElem?_eq_some_iff.1 he).1
    have h2 := List.take_append_drop k l
    rw [List.drop_eq_getElem_cons hk, (List.getElem?_eq_some_iff.1 he).2] at h2
    exact h2.symm
  unfold lookC
  rw [h1, List.find?_append, List.find?_eq_none.2 (fun x hx => by simpa using hn x hx), List.find?_cons_of_pos (by simpa using hp)]
  rfl
theorem lookC_not {l : CoinsL} {p : PtK} (hn : ∀ x ∈ l, x.1 ≠ p) : lookC l p = none := by
  unfold lookC
  rw [List.find?_eq_none.2 (fun e he => by simpa using hn e he)]; rfl
theorem built_coin0 : Try.prog.built 54 [] = some (coinV noCoin).toArray := by kernel_rfl
set_option maxRecDepth 100000 in
set_option maxHeartbeats 2000000 in
theorem rget19_any {A : Option Addr} {n c : Nat} {l : CoinsL} (p : PtK) (w : World) (h : RowC w A n l) (hp : PtOK p) (hn : n ≤ 1000000) :
    Calls Try.prog 28 #[.slice A n c, ptA p] w fun e w' => e = .returned (.tuple #[coinA ((lookC l p).getD noCoin), .bool (lookC l p).isSome]) ∧ Below w.heap.size w w' := by
  have HH := Lib.hid h; have HP := Lib.hid hp
  have HX := Lib.hid (ptV_length hp.1)
  clear h hp
  rw [ptA]
  obtain ⟨xs, hxs⟩ : ∃ q, q = ptV p := ⟨_, rfl⟩
  have HXE := Lib.hid hxs
  rw [← hxs] at HX ⊢
  clear hxs
  obtain ⟨z, hz⟩ : ∃ z, z = w.heap.size := ⟨_, rfl⟩
  have HZ := Lib.hid hz
  clear hz
  go_enter Try.func28, Try.ntmps28
  go_wp2_with (first | (with_reducible refine wpl_box (o := ⟨some 3, _, _, _, _, _⟩) rfl rfl rfl ?_))
  intro w1 hb1 hbw1 hsz1
  rw [← HZ.out] at hb1 hbw1 hsz1 ⊢
  go_wp2_with (first | (with_reducible refine wpl_alloc (o := ⟨some 4, _, _, _, _, _⟩) rfl rfl zero_coin ?_))
  intro w2 hb2 hbw2 hsz2
  have HB1 := Lib.hid (hb1.below hbw2 (by omega))
  have HB2 := Lib.hid hb2
  have HBW := Lib.hid (hbw1.trans (hbw2.mono (by omega)))
  clear hb1 hb2 hbw1 hbw2 hsz1 hsz2
  go_wp2_with fail
  go_loopw [6] (fun iv wr => ∃ k : Nat, k ≤ n ∧ iv = .int .i64 k ∧ Hid ((∀ x ∈ l.take k, x.1 ≠ p) ∧ Blk wr z 52 xs ∧ Blk wr (z + 1) 54 (coinV noCoin) ∧ Below z w wr)) (fun iv _ => n - (intOf iv).toNat)
  case atStart => exact ⟨0, by omega, rfl, Lib.hid ⟨by simp, HB1.out, HB2.out, HBW.out⟩⟩
  case round =>
    obtain ⟨k, hk, rfl, hI⟩ := hrel
    clear HB1 HB2 HBW
    have HT := Lib.hid hI.out.1; have HB1 := Lib.hid hI.out.2.1; have HB2 := Lib.hid hI.out.2.2.1; have HB := Lib.hid hI.out.2.2.2
    clear hI
    by_cases hlt : k < n
    · have HR := Lib.hid (show RowC wr A n l from HH.out.call (by rw [← HZ.out]; exact HB.out))
      obtain ⟨b, off, e, rfl, _, he, hok, hc⟩ := HR.out.at_ hlt
      have HE := Lib.hid he; have HOK := Lib.hid hok; have HC := Lib.hid hc
      have HCP := Lib.hid (fun j u (hu : (ptV e.1)[j]? = some u) => hc (0 + j) u (encAtC_pt hok hu))
      have HEL := Lib.hid (ptV_length hok.1.1)
      have HQ := Lib.hid (eql_pt e.1 p hok.1 HP.out)
      rw [← HXE.out] at HQ
      obtain ⟨r, hr⟩ : ∃ r, r = decide (e.1 = p) := ⟨_, rfl⟩
      rw [← hr] at HQ
      have HRR := Lib.hid hr
      obtain ⟨es, hes⟩ : ∃ q, q = ptV e.1 := ⟨_, rfl⟩
      rw [← hes] at HCP HEL HQ
      clear he hok hc hr hes
      go_wp2_with fail
      repeat' (first | (with_reducible refine wp_phase (id := 4) (fun (_ : Nat) w' => Below wr.heap.size wr w') [] [(0,0),(0,0),(0,0),(0,0),(0,0),(0,0),(0,0)] (by kernel_rfl) (by kernel_rfl) ?_ ?_) | go_values | go_skip | go_guarded | go_step | go_upon | go_back)
      · exact Drawn.all (Drawn.one wr)
      refine ph_value rfl (by first | rfl | go_simp) (fun k_ _ _ w_ hC_ => by first | (go_simp; rfl) | (go_simp; done) | rfl) (fun K hK => ?_)
      go_simp
      refine hK _ ?_
      clear hK K
      refine ph_value rfl (by first | rfl | go_simp) (fun k_ _ _ w_ hC_ => by first | (go_simp; rfl) | (go_simp; done) | rfl) (fun K hK => ?_)
      go_simp
      refine hK _ ?_
      clear hK K
      refine ph_value rfl (by first | rfl | go_simp) (fun k_ _ _ w_ hC_ => by first | (go_simp; rfl) | (go_simp; done) | rfl) (fun K hK => ?_)
      go_simp
      refine hK _ ?_
      clear hK K
      refine ph_value rfl (by first | rfl | go_simp) (fun k_ _ _ w_ hC_ => by first | (go_simp; rfl) | (go_simp; done) | rfl) (fun K hK => ?_)
      go_simp
      refine hK _ ?_
      clear hK K
      refine ph_loadmk rfl rfl rfl row_point (fun k _ _ w h j u hu => bcell h (by have := HCP.out j u hu; rwa [Nat.zero_add] at this)) (by first | rfl | (go_simp; done)) HEL.out ?_
      (intro K hK; go_simp; refine hK _ ?_; clear hK K)
      refine ph_load rfl rfl rfl row_point (fun k _ _ w h => HB1.out.call h) rfl HX.out ?_
      (intro K hK; go_simp; refine hK _ ?_; clear hK K)
      have heq := HQ.out
      refine ph_value rfl (by first | rfl | go_simp) (fun k_ _ _ w_ hC_ => by first | (go_simp; rfl) | (go_simp; done) | rfl) (fun K hK => ?_)
      go_simp
      refine hK _ ?_
      clear hK K
      refine ph_nil ?_
      intro w3 hl3
      have HB1' := Lib.hid (HB1.out.call hl3); have HB2' := Lib.hid (HB2.out.call hl3)
      have HB3 := Lib.hid (HB.out.trans (hl3.mono (by rw [HZ.out]; exact HB.out.size)))
      have HC3 := Lib.hid (fun j u (hu : (encAtC e)[j]? = some u) => bcell hl3 (HC.out j u hu))
      clear hl3 HB1 HB2 HB
      cases r with
      | false =>
        have HT2 := Lib.hid (show ∀ x ∈ l.take (k + 1), x.1 ≠ p from fun x hx => by
          rw [List.take_add_one, HE.out] at hx
          rcases List.mem_append.1 hx with hx | hx
          · exact HT.out x hx
          · have : x = e := by simpa using hx
            rw [this]; exact of_decide_eq_false HRR.out.symm)
        go_wp2_with fail
        go_roundw
        case rel => exact ⟨k + 1, by omega, by go_num, Lib.hid ⟨HT2.out, HB1'.out, HB2'.out, HB3.out⟩⟩
        case measure => simp [intOf]; omega
      | true =>
        have HLC := Lib.hid (lookC_first HE.out (of_decide_eq_true HRR.out.symm) HT.out)
        have HCC := Lib.hid (fun j u (hu : (coinV e.2)[j]? = some u) => (by have := HC3.out (33 + j) u (encAtC_coin HOK.out hu); rwa [← Nat.add_assoc] at this : w3.cell? ⟨b, off + k * 66 + 33 + j, none⟩ = some u))
        have HCL := Lib.hid (coinV_length HOK.out.2); have HC1 := Lib.hid (coinV_one e.2)
        obtain ⟨cs, hcs⟩ : ∃ q, q = coinV e.2 := ⟨_, rfl⟩
        have HCS := Lib.hid hcs
        rw [← hcs] at HCC HCL HC1
        clear heq hcs
        go_wp2_with (first | (with_reducible refine wpl_loadm (o := ⟨some 24, _, _, _, _, _⟩) rfl rfl row_coin HCC.out rfl HCL.out ?_) | (with_reducible refine wpl_storeb (o := ⟨none, .store _ _ _, _, _, _, _⟩) rfl rfl row_coin HB2'.out rfl rfl (coinV_length noCoin_ok) HCL.out HC1.out ?_))
        intro w4 hb4 hg4 hs4
        have H4 := Lib.hid hb4
        have HB4 := Lib.hid (HB3.out.grown hg4 (by rw [HZ.out]; exact HB3.out.size) (fun q hq => by cases hq; omega))
        clear hb4 hg4 hs4
        go_wp2_with fail
        refine ret_cell_tmp rfl row_coin H4.out rfl HCL.out rfl rfl ?_
        exact ⟨by rw [HLC.out, HCS.out]; rfl, by rw [← HZ.out]; exact HB4.out⟩
    · obtain rfl : k = n := by omega
      have HLC := Lib.hid (lookC_not (l := l) (p := p) (by have h1 := HT.out; rw [List.take_of_length_le (by rw [HH.out.2.2]; exact Nat.le_refl _)] at h1; exact h1))
      have HCL := Lib.hid (coinV_length noCoin_ok); have HC1 := Lib.hid (coinV_one noCoin); have HBT := Lib.hid built_coin0
      obtain ⟨cs, hcs⟩ : ∃ q, q = coinV noCoin := ⟨_, rfl⟩
      have HCS := Lib.hid hcs
      rw [← hcs] at HCL HC1 HBT HB2
      clear hcs
      go_wp2_with (first | (refine wpl_build (o := ⟨some 25, _, _, _, _, _⟩) rfl rfl HBT.out ?_) | (with_reducible refine wpl_storeb (o := ⟨none, .store _ _ _, _, _, _, _⟩) rfl rfl row_coin HB2.out rfl rfl HCL.out HCL.out HC1.out ?_))
      intro w4 hb4 hg4 hs4
      have H4 := Lib.hid hb4
      have HB4 := Lib.hid (HB.out.grown hg4 (by rw [HZ.out]; exact HB.out.size) (fun q hq => by cases hq; omega))
      clear hb4 hg4 hs4
      go_wp2_with fail
      refine ret_cell_tmp rfl row_coin H4.out rfl HCL.out rfl rfl ?_
      exact ⟨by rw [HLC.out, HCS.out]; rfl, by rw [← HZ.out]; exact HB4.out⟩
end Go.Proofs.Ytolbbhbfbpiljaa

/- The document's coins in plain words: the list in its order, and what the program's map has to do with it. -/
namespace Go.Proofs.Ytolbbhbfbpiljaa
open Go.RowKit Go.Maps Go.Sort Go.Shelf
set_option linter.unusedVariables false
def insC (p : PtK) (c : CoinV) : CoinsL → CoinsL
  | [] => [(p, c)]
  | e :: r => if cmpP p e.1 < 0 then (p, c) :: e :: r else e :: insC p c r
def rputC (X : CoinsL) (p : PtK) (c : CoinV) : CoinsL × Int :=
  if p.2 < 0 ∨ 16 ≤ p.2 ∨ c.2 = 0 ∨ 4611686018427387904 < c.2 then (X, 5) else if (lookC X p).isSome then (X, 24) else if 256 ≤ X.length then (X, 18) else if 4611686018427387904 - c.2 < amtC X then (X, 6) else (insC p c X, 0)
def cutC (X : CoinsL) (p : PtK) : CoinsL := X.filter (fun e => !(e.1 == p))
def SortC (X : CoinsL) : Prop := X.Pairwise (fun a b => cmpP a.1 b.1 < 0)
theorem insC_done {p : PtK} {c : CoinV} : ∀ {Y Z : CoinsL}, (∃ e ∈ Y, cmpP p e.1 < 0) → insC p c (Y ++ Z) = insC p c Y ++ Z
  | [], _, h => by obtain ⟨e, he, _⟩ := h; cases he
  | y :: Y, Z, h => by
    unfold insC
    rw [List.cons_append]
    show (if cmpP p y.1 < 0 then (p, c) :: y :: (Y ++ Z) else y :: insC p c (Y ++ Z)) = _
    by_cases hy : cmpP p y.1 < 0
    · rw [if_pos hy, if_pos hy]; rfl
    · rw [if_neg hy, if_neg hy]
      rw [insC_done (Y := Y) (by
        obtain ⟨e, he, h2⟩ := h
        rcases List.mem_cons.1 he with rfl | he
        · exact absurd h2 hy
        · exact ⟨e, he, h2⟩)]
      rfl
theorem insC_not {p : PtK} {c : CoinV} : ∀ {Y Z : CoinsL}, (∀ e ∈ Y, ¬ cmpP p e.1 < 0) → insC p c (Y ++ Z) = Y ++ insC p c Z
  | [], _, _ => rfl
  | y :: Y, Z, h => by
    rw [List.cons_append, insC, if_neg (h y (List.mem_cons_self ..)), insC_not (fun e he => h e (List.mem_cons_of_mem _ he))]
    rfl
theorem insC_perm (p : PtK) (c : CoinV) : ∀ X : CoinsL, (insC p c X).Perm ((p, c) :: X)
  | [] => .refl _
  | e :: r => by
    unfold insC
    by_cases h : cmpP p e.1 < 0
    · rw [if_pos h]
    · rw [if_neg h]; exact ((insC_perm p c r).cons e).trans (List.Perm.swap _ _ _)
theorem cmpP_lt_trans {p q r : PtK} (h1 : cmpP p q < 0) (h2 : cmpP q r < 0) : cmpP p r < 0 := by
  have h3 := cmpP_trans p q r (by omega) (by omega)
  rcases Int.lt_or_eq_of_le h3 with h | h
  · exact h
  · obtain rfl := (cmpP_zero p r).1 h
    have := cmpP_neg p q
    omega
theorem cmpP_irr (p : PtK) : ¬ cmpP p p < 0 := by rw [(cmpP_zero p p).2 rfl]; omega
theorem insC_sort {p : PtK} {c : CoinV} : ∀ {X : CoinsL}, SortC X → (∀ e ∈ X, e.1 ≠ p) → SortC (insC p c X)
  | [], _, _ => by unfold SortC insC; simp
  | e :: r, h, hn => by
    unfold SortC at h
    rw [List.pairwise_cons] at h
    unfold insC
    by_cases hp : cmpP p e.1 < 0
    · rw [if_pos hp]
      unfold SortC
      rw [List.pairwise_cons, List.pairwise_cons]
      refine ⟨fun x hx => ?_, h⟩
      rcases List.mem_cons.1 hx with rfl | hx
      · exact hp
      · exact cmpP_lt_trans hp (h.1 x hx)
    · rw [if_neg hp]
      unfold SortC
      rw [List.pairwise_cons]
      refine ⟨fun x hx => ?_, insC_sort h.2 (fun y hy => hn y (List.mem_cons_of_mem _ hy))⟩
      rcases List.mem_cons.1 ((insC_perm p c r).mem_iff.1 hx) with rfl | hx
      · have h1 := cmpP_neg p e.1
        have h2 := cmpP_zero p e.1
        have h3 : cmpP p e.1 ≠ 0 := fun h0 => hn e (List.mem_cons_self ..) (h2.1 h0).symm
        show cmpP e.1 p < 0
        omega
      · exact h.1 x hx
theorem lookC_eq {L : CoinsL} (hd : (L.map (·.1)).Nodup) {e : PtK × CoinV} (he : e ∈ L) : lookC L e.1 = some e.2 := by
  obtain ⟨k, hk⟩ := List.mem_iff_getElem?.1 he
  refine lookC_first hk rfl fun x hx hxe => ?_
  obtain ⟨j, hj⟩ := List.mem_iff_getElem?.1 hx
  have hkk := (List.getElem?_eq_some_iff.1 hk).1
  have hjl := (List.getElem?_eq_some_iff.1 hj).1
  rw [List.length_take] at hjl
  have hj2 : L[j]? = some x := by rw [List.getElem?_take, if_pos (by omega)] at hj; exact hj
  have h1 : (L.map (·.1))[j]? = some e.1 := by rw [List.getElem?_map, hj2]; simp [hxe]
  have h2 : (L.map (·.1))[k]? = some e.1 := by rw [List.getElem?_map, hk]; rfl
  have := (List.getElem?_inj (by rw [List.length_map]; omega) hd).1 (h1.trans h2.symm)
  omega
theorem lookC_perm {X L : CoinsL} (h : X.Perm L) (hd : (L.map (·.1)).Nodup) (p : PtK) : lookC X p = lookC L p := by
  have hdX : (X.map (·.1)).Nodup := (h.map (·.1)).nodup_iff.2 hd
  by_cases hp : ∃ e ∈ L, e.1 = p
  · obtain ⟨e, he, rfl⟩ := hp
    rw [lookC_eq hd he, lookC_eq hdX (h.mem_iff.2 he)]
  · rw [lookC_not (fun x hx hxp => hp ⟨x, hx, hxp⟩), lookC_not (fun x hx hxp => hp ⟨x, h.mem_iff.1 hx, hxp⟩)]
theorem amtC_perm {X L : CoinsL} (h : X.Perm L) : amtC X = amtC L := by
  unfold amtC
  have := h.map (fun e : PtK × CoinV => e.2.2)
  exact this.foldr_eq' (f := (· + ·)) (fun x _ y _ z => by omega) 0
theorem amtC_app (X Y : CoinsL) : amtC (X ++ Y) = amtC X + amtC Y := by unfold amtC; rw [List.map_append, List.sum_append_int]
theorem amtC_one (e : PtK × CoinV) : amtC [e] = e.2.2 := by unfold amtC; simp
def IxOK (l : CoinsL) : Prop := ∀ e ∈ l, 0 ≤ e.1.2 ∧ e.1.2 ≤ 15
/-- The program's coins L (in the order of their putting, with their sum) are the document's X. -/
structure RelC (X L : CoinsL) (s : Int) : Prop where
  perm : X.Perm L
  sort : SortC X
  ok : LOK L
  sum : s = amtC L
  max : s ≤ 4611686018427387904
  len : L.length ≤ 256
  ix : IxOK L
theorem RelC.nil : RelC [] [] 0 := ⟨.refl _, List.Pairwise.nil, ⟨by simp, by simp⟩, rfl, by omega, by simp, by unfold IxOK; simp⟩
theorem RelC.ixX {X L : CoinsL} {s : Int} (h : RelC X L s) : IxOK X := fun e he => h.ix e (h.perm.mem_iff.1 he)
theorem RelC.okX {X L : CoinsL} {s : Int} (h : RelC X L s) : ∀ e ∈ X, AtOKC e := fun e he => h.ok.1 e (h.perm.mem_iff.1 he)
theorem RelC.nn {X L : CoinsL} {s : Int} (h : RelC X L s) : 0 ≤ s := by rw [h.sum]; exact amtC_nn (fun e he => h.ok.1 e he)
theorem RelC.amt {X L : CoinsL} {s : Int} (h : RelC X L s) : amtC X = s := by rw [h.sum]; exact amtC_perm h.perm
theorem RelC.look {X L : CoinsL} {s : Int} (h : RelC X L s) (p : PtK) : lookC X p = lookC L p := lookC_perm h.perm h.ok.2 p
theorem RelC.lenX {X L : CoinsL} {s : Int} (h : RelC X L s) : X.length = L.length := h.perm.length_eq
theorem RelC.code {X L : CoinsL} {s : Int} (h : RelC X L s) (p : PtK) (c : CoinV) (hc : CoinOK c) : (rputC X p c).2 = putR L s p c := by
  have h1 := h.nn; have h2 := h.max
  unfold rputC putR
  rw [h.look, h.lenX, h.amt]
  unfold addE
  have := hc.2.1
  split
  · rfl
  · split
    · rfl
    · split
      · rfl
      · split
        · rw [if_neg (by omega)]
        · rw [if_pos (by omega)]
theorem RelC.put {X L : CoinsL} {s : Int} (h : RelC X L s) {p : PtK} {c : CoinV} (hp : PtOK p) (hc : CoinOK c) (h0 : putR L s p c = 0) : RelC (rputC X p c).1 (L ++ [(p, c)]) (addE s c.2).1 := by
  have h1 := h.nn; have h2 := h.max; have h3 := hc.2.1
  have hk := h.look p; have hlx := h.lenX; have ham := h.amt
  unfold putR at h0
  split at h0
  · omega
  · rename_i hr
    split at h0
    · omega
    · rename_i hl
      have hl2 : (lookC L p).isSome = false := by simpa using hl
      split at h0
      · omega
      · rename_i h256
        unfold addE at h0 ⊢
        split at h0
        · rename_i ha
          rw [if_pos ha]
          have hX : (rputC X p c).1 = insC p c X := by
            unfold rputC
            rw [if_neg hr, hk, if_neg hl, hlx, if_neg h256, ham, if_neg (by omega)]
          rw [hX]
          have hno := lookC_none hl2
          have hpl : (insC p c X).Perm (L ++ [(p, c)]) := (insC_perm p c X).trans ((h.perm.cons (p, c)).trans (List.perm_append_comm (l₁ := [(p, c)]) (l₂ := L)))
          refine ⟨hpl, insC_sort h.sort (fun e he => hno e (h.perm.mem_iff.1 he)), ⟨fun e he => ?_, ?_⟩, ?_, by omega, ?_, fun e he => ?_⟩
          · rcases List.mem_append.1 he with he | he
            · exact h.ok.1 e he
            · rw [List.mem_singleton] at he; subst he; exact ⟨hp, hc⟩
          · rw [List.map_append, List.nodup_append]
            refine ⟨h.ok.2, by simp, fun a ha b hb hab => ?_⟩
            obtain ⟨e, he, rfl⟩ := List.mem_map.1 ha
            simp at hb
            exact hno e he (hab.trans hb)
          · rw [amtC_app, amtC_one, h.sum]
          · rw [List.length_append]; simp; omega
          · rcases List.mem_append.1 he with he | he
            · exact h.ix e he
            · rw [List.mem_singleton] at he; subst he; exact ⟨by show 0 ≤ p.2; omega, by show p.2 ≤ 15; omega⟩
        · simp at h0
theorem rputC_same {X : CoinsL} {p : PtK} {c : CoinV} (h : (rputC X p c).2 ≠ 0) : (rputC X p c).1 = X := by
  unfold rputC at *
  (repeat' split) <;> first | rfl | skip
  all_goals simp_all
theorem cutC_all {X : CoinsL} {p : PtK} (h : ∀ e ∈ X, e.1 ≠ p) : cutC X p = X := by
  unfold cutC
  exact List.filter_eq_self.2 (fun e he => by simpa using h e he)
theorem dropC_eq {L : CoinsL} {p : PtK} (hd : (L.map (·.1)).Nodup) : dropC L p = cutC L p := by
  induction L with
  | nil => rfl
  | cons e r ih =>
    rw [List.map_cons, List.nodup_cons] at hd
    unfold dropC cutC at *
    by_cases h : e.1 = p
    · rw [List.eraseP_cons_of_pos (by simpa using h), List.filter_cons_of_neg (by simpa using h)]
      exact (List.filter_eq_self.2 (fun x hx => by
        have : x.1 ≠ p := fun hxp => hd.1 (List.mem_map.2 ⟨x, hx, by rw [hxp, h]⟩)
        simpa using this)).symm
    · rw [List.eraseP_cons_of_neg (by simpa using h), List.filter_cons_of_pos (by simpa using h), ih hd.2]
theorem amtC_cut {L : CoinsL} {p : PtK} (hd : (L.map (·.1)).Nodup) : amtC (cutC L p) = amtC L - ((lookC L p).getD noCoin).2 := by
  induction L with
  | nil => rfl
  | cons e r ih =>
    rw [List.map_cons, List.nodup_cons] at hd
    by_cases h : e.1 = p
    · have h1 : cutC (e :: r) p = r := by
        unfold cutC
        rw [List.filter_cons_of_neg (by simpa using h)]
        exact List.filter_eq_self.2 (fun x hx => by
          have : x.1 ≠ p := fun hxp => hd.1 (List.mem_map.2 ⟨x, hx, by rw [hxp, h]⟩)
          simpa using this)
      have h2 : lookC (e :: r) p = some e.2 := by unfold lookC; rw [List.find?_cons_of_pos (by simpa using h)]; rfl
      rw [h1, h2]
      unfold amtC
      rw [List.map_cons, List.sum_cons]
      simp only [Option.getD_some]
      omega
    · have h1 : cutC (e :: r) p = e :: cutC r p := by unfold cutC; rw [List.filter_cons_of_pos (by simpa using h)]
      have h2 : lookC (e :: r) p = lookC r p := by unfold lookC; rw [List.find?_cons_of_neg (by simpa using h)]
      have h3 := ih hd.2
      rw [h1, h2]
      unfold amtC at h3 ⊢
      rw [List.map_cons, List.sum_cons, List.map_cons, List.sum_cons, h3]
      omega
theorem RelC.amtp {X L : CoinsL} {s : Int} (h : RelC X L s) (p : PtK) : 0 ≤ ((lookC L p).getD noCoin).2 ∧ ((lookC L p).getD noCoin).2 ≤ s := by
  have h1 := amtC_cut (p := p) h.ok.2
  have h2 := amtC_nn (l := cutC L p) (fun e he => h.ok.1 e (List.mem_filter.1 he).1)
  have h3 := h.sum
  refine ⟨?_, by omega⟩
  cases hl : lookC L p with
  | none => simp [noCoin]
  | some c =>
    obtain ⟨e, he, rfl⟩ := Option.map_eq_some_iff.1 (show (L.find? (fun e => e.1 == p)).map (·.2) = some c from hl)
    exact (h.ok.1 e (List.mem_of_find?_eq_some he)).2.2.1
theorem RelC.take {X L : CoinsL} {s : Int} (h : RelC X L s) (p : PtK) : RelC (cutC X p) (dropC L p) (s - ((lookC L p).getD noCoin).2) := by
  have h1 := amtC_cut (p := p) h.ok.2
  have h2 := h.amtp p
  rw [dropC_eq h.ok.2]
  refine ⟨h.perm.filter _, List.Pairwise.filter _ h.sort, ⟨fun e he => h.ok.1 e (List.mem_filter.1 he).1, ?_⟩, ?_, ?_, ?_, fun e he => h.ix e (List.mem_filter.1 he).1⟩
  · exact List.Nodup.sublist (List.Sublist.map _ List.filter_sublist) h.ok.2
  · rw [h1, h.sum]
  · have := h.max; omega
  · exact Nat.le_trans (List.length_filter_le _ _) h.len
theorem RelC.all {X L : CoinsL} {s : Int} (h : RelC X L s) {ks ss : List PtS} (hp : (ks.map (·.1)).Perm (L.map (·.1))) (hs : ks = sortP ss) : ks.map (·.1) = X.map (·.1) := by
  have tr : ∀ x y z : PtS, (!(ltOf cfPt) y x) = true → (!(ltOf cfPt) z y) = true → (!(ltOf cfPt) z x) = true := fun x y z h1 h2 => by
    simp only [Bool.not_eq_true'] at *
    exact swo_pt.ntrans z y x h2 h1
  have tto : ∀ x y : PtS, ((!(ltOf cfPt) y x) || (!(ltOf cfPt) x y)) = true := fun x y => by
    by_cases hc : ltOf cfPt y x = true
    · have : ltOf cfPt x y = false := by
        cases hh : ltOf cfPt x y with
        | false => rfl
        | true => have := swo_pt.trans y x y hc hh; rw [swo_pt.irrefl] at this; cases this
      simp [hc, this]
    · simp [Bool.not_eq_true _ ▸ hc]
  have hk : (ks.map (·.1)).Pairwise (fun a b => cmpP a b ≤ 0) := by
    rw [List.pairwise_map, hs]
    refine (List.pairwise_mergeSort tr tto ss).imp fun {a b} hab => ?_
    simp only [Bool.not_eq_true'] at hab
    rw [nlt_pt] at hab
    exact hab
  have hX : (X.map (·.1)).Pairwise (fun a b => cmpP a b ≤ 0) := by
    rw [List.pairwise_map]
    exact h.sort.imp fun {a b} hab => by omega
  refine List.Perm.eq_of_pairwise (le := fun a b => cmpP a b ≤ 0) (fun a b _ _ h1 h2 => ?_) hk hX (hp.trans (h.perm.map _).symm)
  have h3 := cmpP_neg a b
  exact (cmpP_zero a b).1 (by omega)
end Go.Proofs.Ytolbbhbfbpiljaa

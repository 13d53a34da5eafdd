/- Contracts: which request of a list is the first of a kind (IndexFunc), and whether one is there. Printed by mkqc.py. -/
import Derived.Test.YtmchpopllhnahaaQB
namespace Go.Proofs.Ytmchpopllhnahaa
open Go.RowKit
set_option linter.unusedVariables false
/-- The place of the first that pr takes, from k on; -1: none. -/
def idxW (pr : Wt → Bool) : List (Value × Wt) → Nat → Int
  | [], _ => -1
  | p :: r, k => if pr p.2 then k else idxW pr r (k + 1)
theorem idxW_at {pr : Wt → Bool} {L : List (Value × Wt)} {k : Nat} {p : Value × Wt} (h : L[k]? = some p) : idxW pr (L.drop k) k = if pr p.2 then (k : Int) else idxW pr (L.drop (k + 1)) (k + 1) := by
  obtain ⟨hk, rfl⟩ := List.getElem?_eq_some_iff.1 h
  rw [List.drop_eq_getElem_cons hk]; rfl
theorem idxW_end {pr : Wt → Bool} {L : List (Value × Wt)} {k : Nat} (h : L.length = k) : idxW pr (L.drop k) k = -1 := by
  rw [List.drop_of_length_le (by omega)]; rfl
theorem idxW_le {pr : Wt → Bool} : ∀ (L : List (Value × Wt)) (k : Nat), -1 ≤ idxW pr L k ∧ (idxW pr L k = -1 ∨ (k ≤ idxW pr L k ∧ idxW pr L k < k + L.length))
  | [], k => ⟨by simp [idxW], .inl rfl⟩
  | p :: r, k => by
    have := idxW_le (pr := pr) r (k + 1)
    unfold idxW
    rw [List.length_cons]
    split
    · omega
    · omega
theorem idxW_any {pr : Wt → Bool} : ∀ (L : List (Value × Wt)) (k : Nat), decide (0 ≤ idxW pr L k) = (L.map Prod.snd).any pr
  | [], k => by simp [idxW]
  | p :: r, k => by
    have := idxW_any (pr := pr) r (k + 1)
    unfold idxW
    rw [List.map_cons, List.any_cons]
    split
    · rename_i h; rw [h]; simp
    · rename_i h
      rw [this]; simp only [Bool.not_eq_true] at h; rw [h]; rfl
/-- The two kinds. -/
def isHas (c n : Int) (p : Wt) : Bool := (p.cl == c) && (p.num == n)
def isLess (r : Nat) (p : Wt) : Bool := decide (cmpK p.rate r < 0)
set_option maxRecDepth 100000 in
theorem has1_any {g1 g2 : Nat} {c n : Int} {v : Value} {p : Wt} {w : World} (hv : v.oneCell' = true) (h1 : Blk w g1 3 [.int .i64 c]) (h2 : Blk w g2 3 [.int .i64 n]) :
    Calls Try.prog 42 #[wtA v p, .pointer (some ⟨g1, 0, none⟩), .pointer (some ⟨g2, 0, none⟩)] w fun e w' => e = .returned (.bool (isHas c n p)) ∧ Grow w w' := by
  have HWC := Lib.hid (wtV_cl p hv)
  have H0 := Lib.hid (show (wtV v p)[0]? = some (.int .i64 p.cl) from rfl)
  have H1 := Lib.hid (show (wtV v p)[1]? = some (.int .i64 p.num) from rfl)
  have HR := Lib.hid (show isHas c n p = ((p.cl == c) && (p.num == n)) from rfl)
  have K1 := Lib.hid h1; have K2 := Lib.hid h2
  unfold wtA
  obtain ⟨xs, hx⟩ : ∃ q, q = wtV v p := ⟨_, rfl⟩
  rw [← hx] at HWC H0 H1 ⊢
  obtain ⟨b1, hb1⟩ : ∃ q, (p.cl == c) = q := ⟨_, rfl⟩
  obtain ⟨b2, hb2⟩ : ∃ q, (p.num == n) = q := ⟨_, rfl⟩
  rw [hb1, hb2] at HR
  rw [HR.out]
  obtain ⟨w_, hw⟩ : ∃ x, x = w := ⟨_, rfl⟩
  have HB := Lib.hid (show Below w.heap.size w w_ by rw [hw]; exact Below.refl _ _)
  suffices H : Calls Try.prog 42 #[.agg xs.toArray, .pointer (some ⟨g1, 0, none⟩), .pointer (some ⟨g2, 0, none⟩)] w_ fun e w' => e = .returned (.bool (b1 && b2)) ∧ Grow w w' by rw [hw] at H; exact H
  clear hw h1 h2 hx hv HR
  go_enter Try.func42, Try.ntmps42
  go_wp2_with (first | (with_reducible refine wpl_box (o := ⟨some 3, _, _, _, _, _⟩) rfl rfl rfl ?_))
  intro w2_ hb2_ hb_ hsz2_
  have HX_ := Lib.hid (at_mk hb2_ HWC.out.len)
  clear hb2_ hsz2_
  have HG_ := Lib.hid HB.out.size
  have HB_ := Lib.hid (HB.out.grow' hb_)
  clear HB
  have HB := HB_
  clear HB_
  generalize hg_ : w_.heap.size = g3 at HX_ HG_ ⊢
  clear hg_
  have HP_g := HG_
  clear HG_
  have HP := HX_
  clear hb_ HX_
  try clear w_
  rename World => w_
  have c0 := HP.out.blk.at_ H0.out
  have c1 := HP.out.blk.at_ H1.out
  have c2 := (K1.out.below HB.out K1.out.lt).at_ (i := 0) rfl
  have c3 := (K2.out.below HB.out K2.out.lt).at_ (i := 0) rfl
  cases b1 <;> cases b2 <;> (go_wp2_with fail; go_ret; exact ⟨rfl, HB.out⟩)
set_option maxRecDepth 100000 in
theorem push1_any {g : Nat} {v v2 : Value} {p q : Wt} {w : World} (hv : v.oneCell' = true) (hp : p.ok) (hq : q.ok) (h1 : Blk w g 29 (wtV v2 q)) :
    Calls Try.prog 32 #[wtA v p, .pointer (some ⟨g, 0, none⟩)] w fun e w' => e = .returned (.bool (isLess q.rate p)) ∧ Grow w w' := by
  have HWC := Lib.hid (wtV_cl p hv)
  have H2 := Lib.hid (show (wtV v p)[2]? = some (.float .f64 p.rate) from rfl)
  have K2 := Lib.hid (show (wtV v2 q)[2]? = some (.float .f64 q.rate) from rfl)
  have HC := Lib.hid (fun w => rcmp_any p.rate q.rate w hp.1 hq.1)
  have HR := Lib.hid (show isLess q.rate p = decide (cmpK p.rate q.rate < 0) from rfl)
  have K1 := Lib.hid h1
  unfold wtA
  obtain ⟨xs, hx⟩ : ∃ q, q = wtV v p := ⟨_, rfl⟩
  obtain ⟨ys, hy⟩ : ∃ r, r = wtV v2 q := ⟨_, rfl⟩
  rw [← hx] at HWC H2 ⊢
  rw [← hy] at K1 K2
  obtain ⟨z, hz⟩ : ∃ z, cmpK p.rate q.rate = z := ⟨_, rfl⟩
  obtain ⟨r1, hr1⟩ : ∃ z, p.rate = z := ⟨_, rfl⟩
  obtain ⟨r2, hr2⟩ : ∃ z, q.rate = z := ⟨_, rfl⟩
  rw [hz] at HC HR
  rw [HR.out]
  rw [hr1] at HC H2
  rw [hr2] at HC K2
  obtain ⟨w_, hw⟩ : ∃ x, x = w := ⟨_, rfl⟩
  have HB := Lib.hid (show Below w.heap.size w w_ by rw [hw]; exact Below.refl _ _)
  suffices H : Calls Try.prog 32 #[.agg xs.toArray, .pointer (some ⟨g, 0, none⟩)] w_ fun e w' => e = .returned (.bool (decide (z < 0))) ∧ Grow w w' by rw [hw] at H; exact H
  clear hw h1 hx hy hv HR hz hr1 hr2 hp hq
  go_enter Try.func32, Try.ntmps32
  go_wp2_with (first | (with_reducible refine wpl_box (o := ⟨some 2, _, _, _, _, _⟩) rfl rfl rfl ?_))
  intro w2_ hb2_ hb_ hsz2_
  have HX_ := Lib.hid (at_mk hb2_ HWC.out.len)
  clear hb2_ hsz2_
  have HG_ := Lib.hid HB.out.size
  have HB_ := Lib.hid (HB.out.grow' hb_)
  clear HB
  have HB := HB_
  clear HB_
  generalize hg_ : w_.heap.size = g3 at HX_ HG_ ⊢
  clear hg_
  have HP_g := HG_
  clear HG_
  have HP := HX_
  clear hb_ HX_
  try clear w_
  rename World => w_
  have c0 := HP.out.blk.at_ H2.out
  have c1 := (K1.out.below HB.out K1.out.lt).at_ K2.out
  go_wp2_with fail
  refine (HC.out _).mono ?_
  rintro e w2_ ⟨rfl, hb_⟩
  have HB_ := Lib.hid (HB.out.grow' hb_)
  clear hb_ c0 c1
  go_wp2_with fail
  go_ret
  exact ⟨rfl, HB_.out⟩
set_option maxRecDepth 100000 in
set_option maxHeartbeats 2000000 in
theorem indexHas_any {M : List Nat} {A : Option Addr} {n c : Nat} {L : List (Value × Wt)} {g1 g2 : Nat} {cc nn : Int} {w : World} (hx : XAt w M A n L) (hn : n ≤ 1000000) (h1 : Blk w g1 3 [.int .i64 cc]) (h2 : Blk w g2 3 [.int .i64 nn]) :
    Calls Try.prog 31 #[.slice A n c, .func (.func 42) #[] #[.pointer (some ⟨g1, 0, none⟩), .pointer (some ⟨g2, 0, none⟩)]] w fun e w' => e = .returned (.int .i64 (idxW (isHas cc nn) L 0)) ∧ Grow w w' := by
  have HX := Lib.hid hx
  have HF := Lib.hid (fun w2 (hg : Grow w w2) v p (HP : Hid (BV w M v p.bs ∧ p.ok)) => show Calls Try.prog 42 (#[wtA v p] ++ #[.pointer (some ⟨g1, 0, none⟩), .pointer (some ⟨g2, 0, none⟩)]) w2 (fun e w' => e = .returned (.bool (isHas cc nn p)) ∧ Grow w2 w') from has1_any (HP.out.1.one) (h1.below hg h1.lt) (h2.below hg h2.lt))
  obtain ⟨pr, hpr⟩ : ∃ prd, prd = isHas cc nn := ⟨_, rfl⟩
  rw [← hpr] at HF ⊢
  unfold wtA at HF
  obtain ⟨z, hz⟩ : ∃ z, z = idxW pr L 0 := ⟨_, rfl⟩
  have HZ := Lib.hid hz
  rw [← hz]
  obtain ⟨w_, hw⟩ : ∃ x, x = w := ⟨_, rfl⟩
  have HB := Lib.hid (show Below w.heap.size w w_ by rw [hw]; exact Below.refl _ _)
  suffices H : Calls Try.prog 31 #[.slice A n c, .func (.func 42) #[] #[.pointer (some ⟨g1, 0, none⟩), .pointer (some ⟨g2, 0, none⟩)]] w_ fun e w' => e = .returned (.int .i64 z) ∧ Grow w w' by rw [hw] at H; exact H
  clear hw hx hz hpr h1 h2
  go_enter Try.func31, Try.ntmps31
  go_wp2_with fail
  go_loopw [8] (fun iv wr => ∃ k : Nat, k ≤ n ∧ iv = .int .i64 k ∧ Hid (z = idxW pr (L.drop k) k ∧ Below w.heap.size w wr)) (fun iv _ => n - (intOf iv).toNat)
  case atStart => exact ⟨0, by omega, rfl, Lib.hid ⟨HZ.out, HB.out⟩⟩
  case round =>
    obtain ⟨k, hk, rfl, hI⟩ := hrel
    clear HB HZ
    have HZ := Lib.hid hI.out.1; have HB := Lib.hid hI.out.2
    clear hI
    rename World => w_
    by_cases hlt : k < n
    · obtain ⟨b, off, p, rfl, hp, hc, hbv, hok⟩ := HX.out.at_ hlt
      have HC := Lib.hid (fun j u (hu : (wtV p.1 p.2)[j]? = some u) => bcell HB.out (hc j u hu))
      have HPC := Lib.hid (wtV_cl p.2 hbv.one)
      have HL := Lib.hid (fun w2 (hg : Grow w w2) => HF.out w2 hg p.1 p.2 (Lib.hid ⟨hbv, hok⟩))
      have HZ2 := Lib.hid (show z = if pr p.2 then (k : Int) else idxW pr (L.drop (k + 1)) (k + 1) by rw [HZ.out, idxW_at hp])
      obtain ⟨pv, hpv⟩ : ∃ q, q = wtV p.1 p.2 := ⟨_, rfl⟩
      rw [← hpv] at HC HPC HL
      obtain ⟨lg, hlg⟩ : ∃ q, q = pr p.2 := ⟨_, rfl⟩
      rw [← hlg] at HL HZ2
      clear hp hok hc hpv hlg hbv
      have HL2 := Lib.hid (fun w2 (hg : Grow w w2) => show Calls Try.prog 42 (#[.agg pv.toArray] ++ #[.pointer (some ⟨g1, 0, none⟩), .pointer (some ⟨g2, 0, none⟩)]) w2 (fun e w' => e = .returned (.bool lg) ∧ Grow w2 w') from HL.out w2 hg)
      clear HL HF
      have v1 : IntKind.i64.wrap ((k : Int) + 1) = (k : Int) + 1 := IntWalk.i64_in _ (by omega)
      go_wp2_with (first | (with_reducible refine wpl_loadm (o := ⟨some 15, _, _, _, _, _⟩) rfl rfl row_wait HC.out rfl HPC.out.len ?_))
      refine (HL2.out _ HB.out).mono ?_
      rintro e w2_ ⟨rfl, hb_⟩
      have HB_ := Lib.hid (HB.out.grow' hb_)
      clear hb_ HB HL2
      cases lg with
      | true =>
        have HZ3 := Lib.hid (show z = k by rw [HZ2.out]; rfl)
        clear v1
        go_wp2_with fail
        go_ret
        exact ⟨by rw [HZ3.out]; rfl, HB_.out⟩
      | false =>
        go_wp2_with fail
        go_roundw
        all_goals clear v1
        case rel => exact ⟨k + 1, by omega, by go_num, Lib.hid ⟨by rw [HZ2.out]; rfl, HB_.out⟩⟩
        case measure => simp [intOf]; omega
    · obtain rfl : k = n := by omega
      have HZE := Lib.hid (show z = -1 by rw [HZ.out, idxW_end HX.out.1])
      go_wp2_with fail
      go_ret
      exact ⟨by rw [HZE.out]; rfl, HB.out⟩
set_option maxRecDepth 100000 in
set_option maxHeartbeats 2000000 in
theorem indexLess_any {M : List Nat} {A : Option Addr} {n c : Nat} {L : List (Value × Wt)} {g1 : Nat} {v2 : Value} {q : Wt} {w : World} (hx : XAt w M A n L) (hn : n ≤ 1000000) (h1 : Blk w g1 29 (wtV v2 q)) (hq : q.ok) :
    Calls Try.prog 31 #[.slice A n c, .func (.func 32) #[] #[.pointer (some ⟨g1, 0, none⟩)]] w fun e w' => e = .returned (.int .i64 (idxW (isLess q.rate) L 0)) ∧ Grow w w' := by
  have HX := Lib.hid hx
  have HF := Lib.hid (fun w2 (hg : Grow w w2) v p (HP : Hid (BV w M v p.bs ∧ p.ok)) => show Calls Try.prog 32 (#[wtA v p] ++ #[.pointer (some ⟨g1, 0, none⟩)]) w2 (fun e w' => e = .returned (.bool (isLess q.rate p)) ∧ Grow w2 w') from push1_any (HP.out.1.one) HP.out.2 hq (h1.below hg h1.lt))
  obtain ⟨pr, hpr⟩ : ∃ prd, prd = isLess q.rate := ⟨_, rfl⟩
  rw [← hpr] at HF ⊢
  unfold wtA at HF
  obtain ⟨z, hz⟩ : ∃ z, z = idxW pr L 0 := ⟨_, rfl⟩
  have HZ := Lib.hid hz
  rw [← hz]
  obtain ⟨w_, hw⟩ : ∃ x, x = w := ⟨_, rfl⟩
  have HB := Lib.hid (show Below w.heap.size w w_ by rw [hw]; exact Below.refl _ _)
  suffices H : Calls Try.prog 31 #[.slice A n c, .func (.func 32) #[] #[.pointer (some ⟨g1, 0, none⟩)]] w_ fun e w' => e = .returned (.int .i64 z) ∧ Grow w w' by rw [hw] at H; exact H
  clear hw hx hz hpr h1 hq
  go_enter Try.func31, Try.ntmps31
  go_wp2_with fail
  go_loopw [8] (fun iv wr => ∃ k : Nat, k ≤ n ∧ iv = .int .i64 k ∧ Hid (z = idxW pr (L.drop k) k ∧ Below w.heap.size w wr)) (fun iv _ => n - (intOf iv).toNat)
  case atStart => exact ⟨0, by omega, rfl, Lib.hid ⟨HZ.out, HB.out⟩⟩
  case round =>
    obtain ⟨k, hk, rfl, hI⟩ := hrel
    clear HB HZ
    have HZ := Lib.hid hI.out.1; have HB := Lib.hid hI.out.2
    clear hI
    rename World => w_
    by_cases hlt : k < n
    · obtain ⟨b, off, p, rfl, hp, hc, hbv, hok⟩ := HX.out.at_ hlt
      have HC := Lib.hid (fun j u (hu : (wtV p.1 p.2)[j]? = some u) => bcell HB.out (hc j u hu))
      have HPC := Lib.hid (wtV_cl p.2 hbv.one)
      have HL := Lib.hid (fun w2 (hg : Grow w w2) => HF.out w2 hg p.1 p.2 (Lib.hid ⟨hbv, hok⟩))
      have HZ2 := Lib.hid (show z = if pr p.2 then (k : Int) else idxW pr (L.drop (k + 1)) (k + 1) by rw [HZ.out, idxW_at hp])
      obtain ⟨pv, hpv⟩ : ∃ q, q = wtV p.1 p.2 := ⟨_, rfl⟩
      rw [← hpv] at HC HPC HL
      obtain ⟨lg, hlg⟩ : ∃ q, q = pr p.2 := ⟨_, rfl⟩
      rw [← hlg] at HL HZ2
      clear hp hok hc hpv hlg hbv
      have HL2 := Lib.hid (fun w2 (hg : Grow w w2) => show Calls Try.prog 32 (#[.agg pv.toArray] ++ #[.pointer (some ⟨g1, 0, none⟩)]) w2 (fun e w' => e = .returned (.bool lg) ∧ Grow w2 w') from HL.out w2 hg)
      clear HL HF
      have v1 : IntKind.i64.wrap ((k : Int) + 1) = (k : Int) + 1 := IntWalk.i64_in _ (by omega)
      go_wp2_with (first | (with_reducible refine wpl_loadm (o := ⟨some 15, _, _, _, _, _⟩) rfl rfl row_wait HC.out rfl HPC.out.len ?_))
      refine (HL2.out _ HB.out).mono ?_
      rintro e w2_ ⟨rfl, hb_⟩
      have HB_ := Lib.hid (HB.out.grow' hb_)
      clear hb_ HB HL2
      cases lg with
      | true =>
        have HZ3 := Lib.hid (show z = k by rw [HZ2.out]; rfl)
        clear v1
        go_wp2_with fail
        go_ret
        exact ⟨by rw [HZ3.out]; rfl, HB_.out⟩
      | false =>
        go_wp2_with fail
        go_roundw
        all_goals clear v1
        case rel => exact ⟨k + 1, by omega, by go_num, Lib.hid ⟨by rw [HZ2.out]; rfl, HB_.out⟩⟩
        case measure => simp [intOf]; omega
    · obtain rfl : k = n := by omega
      have HZE := Lib.hid (show z = -1 by rw [HZ.out, idxW_end HX.out.1])
      go_wp2_with fail
      go_ret
      exact ⟨by rw [HZE.out]; rfl, HB.out⟩
theorem containsHas_any {M : List Nat} {A : Option Addr} {n c : Nat} {L : List (Value × Wt)} {g1 g2 : Nat} {cc nn : Int} {w : World} (hx : XAt w M A n L) (hn : n ≤ 1000000) (h1 : Blk w g1 3 [.int .i64 cc]) (h2 : Blk w g2 3 [.int .i64 nn]) :
    Calls Try.prog 41 #[.slice A n c, .func (.func 42) #[] #[.pointer (some ⟨g1, 0, none⟩), .pointer (some ⟨g2, 0, none⟩)]] w fun e w' => e = .returned (.bool ((L.map Prod.snd).any (isHas cc nn))) ∧ Grow w w' := by
  have HI := Lib.hid (indexHas_any (c := c) hx hn h1 h2)
  have HQ := Lib.hid (idxW_any (pr := isHas cc nn) L 0)
  obtain ⟨q, hq⟩ : ∃ q, q = (L.map Prod.snd).any (isHas cc nn) := ⟨_, rfl⟩
  obtain ⟨z, hz⟩ : ∃ q, q = idxW (isHas cc nn) L 0 := ⟨_, rfl⟩
  rw [← hz] at HI HQ
  rw [← hq] at HQ ⊢
  clear hz hq hx h1 h2
  go_enter Try.func41, Try.ntmps41
  go_wp2_with fail
  refine HI.out.mono ?_
  rintro e w2_ ⟨rfl, hb⟩
  have HB := Lib.hid hb
  clear hb
  go_wp2_with fail
  go_ret
  exact ⟨by rw [← HQ.out]; rfl, HB.out⟩
end Go.Proofs.Ytmchpopllhnahaa

/- Contracts of coins.Compare and its reference: the order of outputs. -/
import Derived.Test.YtolbbhbfbpiljaaRate
import Derived.Test.YtolbbhbfbpiljaaWords
import Derived.Lib.BytesEntry
import Derived.Stop.BytesEq
import Derived.Lib.QuietBelow
namespace Go.Proofs.Ytolbbhbfbpiljaa
open Go.RowKit
set_option linter.unusedVariables false

theorem bytesOf_b8 (ds : List UInt8) : Lib.bytesOf (ds.map b8) = ds := by
  unfold Lib.bytesOf b8
  rw [List.map_map]
  conv => rhs; rw [← List.map_id ds]
  apply List.map_congr_left
  intro x _
  simp
theorem run_bytes {P : Program} (w : World) {BB : Nat} {A : Option Addr} {n c : Nat} {ds : List UInt8} (h : Sl w BB 1 A n (ds.map B)) :
    (Extern.Bytes.bytesOf (.slice A n c)).run P w = .ok ⟨ds.toArray⟩ w := by
  have hl : ds.length = n := by have := h.len; simpa using this
  rcases Nat.eq_zero_or_pos n with h0 | h0
  · subst h0
    obtain rfl : ds = [] := List.eq_nil_of_length_eq_zero hl
    cases A with
    | none => rfl
    | some a => rfl
  · obtain ⟨b, off, rfl, _, hc⟩ := h.2 h0
    have := Lib.run_loadBytesX (P := P) w (ds.map b8) ⟨b, off, none⟩ .empty (fun j x hj => by
      rw [Addr.add_lit]
      refine hc j _ ?_
      rw [List.getElem?_map] at hj ⊢
      obtain ⟨y, hy, rfl⟩ := Option.map_eq_some_iff.1 hj
      rw [hy]; rfl)
    rw [bytesOf_b8, List.length_map, hl] at this
    show (Extern.Bytes.loadBytes ⟨b, off, none⟩ n .empty).run P w = _
    rw [this]
    congr 2
    simp
theorem bcmp_any (A A2 : Option Addr) (n c n2 c2 : Nat) (ds es : List UInt8) (w : World) {B1 B2 : Nat} (h1 : Sl w B1 1 A n (ds.map B)) (h2 : Sl w B2 1 A2 n2 (es.map B)) :
    Calls Try.prog 91 #[.slice A n c, .slice A2 n2 c2] w fun e w' => e = .returned (.int .i64 (Lib.compareBytes ds es)) ∧ w = w' := by
  have hrun : (callFunc 113 #[.slice A n c, .slice A2 n2 c2]).run Try.prog w = .ok (.value (.int .i64 (Lib.compareBytes ds es))) w := by
    rw [run_callFunc_extern Try.func113 (by kernel_rfl) (by kernel_rfl) (by kernel_rfl) (e := Extern.BytealgCompare.compare) (by kernel_rfl)]
    change (Sem.run Try.prog (do pure (goInt (Extern.BytealgCompare.cmp (← Extern.Bytes.bytesOf (.slice A n c)) (← Extern.Bytes.bytesOf (.slice A2 n2 c2))))) w).andThen _ = _
    simp only [Sem.run_bind, run_bytes w h1, run_bytes w h2, Result.andThen, Sem.run_pure]
    rw [Lib.cmp_eq]
    rfl
  generalize Lib.compareBytes ds es = z at *
  clear h1 h2
  go_enter Try.func91, Try.ntmps91
  go_wp2
  go_ret
  exact ⟨rfl, rfl⟩

/-- An output's cells. -/
def ptV (p : List UInt8 × Int) : List Value := p.1.map B ++ [.int .i64 p.2]
theorem ptV_length {p : List UInt8 × Int} (h : p.1.length = 32) : (ptV p).length = 33 := by simp [ptV, h]
theorem ptV_ix {p : List UInt8 × Int} (h : p.1.length = 32) : (ptV p)[32]? = some (.int .i64 p.2) := by
  unfold ptV; rw [List.getElem?_append_right (by simp [h])]; simp [h]
theorem ptV_at {p : List UInt8 × Int} (h : p.1.length = 32) {k : Nat} (hk : k < 32) : (ptV p)[k]? = some (.int .u8 (b8 (p.1[k]?.getD 0))) := by
  unfold ptV; rw [List.getElem?_append_left (by simp [h, hk]), List.getElem?_map, List.getElem?_eq_getElem (by omega)]; rfl
theorem Blk.ptSl {w : World} {g : Nat} {t : TypeId} {p : List UInt8 × Int} (h : Blk w g t (ptV p)) (hl : p.1.length = 32) : Sl w w.heap.size 1 (some ⟨g, 0, none⟩) 32 (p.1.map B) :=
  ⟨by simp [hl], fun _ => ⟨g, 0, rfl, h.lt, fun j u hu => by
    rw [Nat.zero_add]
    refine h.at_ ?_
    have hj : j < (p.1.map B).length := (List.getElem?_eq_some_iff.1 hu).1
    unfold ptV; rw [List.getElem?_append_left hj]; exact hu⟩⟩

def cmpP (p q : List UInt8 × Int) : Int := if Lib.compareBytes p.1 q.1 = 0 then cmpI p.2 q.2 else Lib.compareBytes p.1 q.1

set_option maxRecDepth 100000 in
theorem ccmp_any (p q : List UInt8 × Int) (w : World) (hp : p.1.length = 32) (hq : q.1.length = 32) :
    Calls Try.prog 59 #[.agg (ptV p).toArray, .agg (ptV q).toArray] w fun e w' => e = .returned (.int .i64 (cmpP p q)) ∧ Below w.heap.size w w' := by
  obtain ⟨xs, hxs⟩ : ∃ xs, xs = ptV p := ⟨_, rfl⟩
  obtain ⟨ys, hys⟩ : ∃ ys, ys = ptV q := ⟨_, rfl⟩
  obtain ⟨z, hz⟩ : ∃ z, z = cmpP p q := ⟨_, rfl⟩
  rw [← hxs, ← hys, ← hz]
  have HZ := Lib.hid hz; clear hz
  have HX := Lib.hid hxs; have HY := Lib.hid hys
  have HP := Lib.hid hp; have HQ := Lib.hid hq
  clear hxs hys hp hq
  go_enter Try.func59, Try.ntmps59
  go_wp2_with (first | (with_reducible refine wpl_box (o := ⟨some 2, _, _, _, _, _⟩) rfl rfl rfl ?_))
  intro w1 hb1 hbw1 hsz1
  generalize hgd : w.heap.size = g at *
  go_wp2_with (first | (with_reducible refine wpl_box (o := ⟨some 3, _, _, _, _, _⟩) rfl rfl rfl ?_))
  intro w2 hb2 hbw2 hsz2
  try rw [hsz1] at hb2 hsz2 ⊢
  have H2 := Lib.hid hb2
  have H1 := Lib.hid (hb1.below hbw2 (by omega))
  have HBW := Lib.hid (hbw1.trans (hbw2.mono (by omega)))
  have HSZ := Lib.hid (show g ≤ w2.heap.size by omega)
  clear hb1 hb2 hbw1 hbw2 hsz1 hsz2
  generalize hg2 : g + 1 = g2 at *
  have c1 : w2.cell? ⟨g, 32, none⟩ = some (.int .i64 p.2) := H1.out.at_ (by rw [HX.out]; exact ptV_ix HP.out)
  have c2 : w2.cell? ⟨g2, 32, none⟩ = some (.int .i64 q.2) := H2.out.at_ (by rw [HY.out]; exact ptV_ix HQ.out)
  have s1 := Lib.hid (Blk.ptSl (p := p) (by rw [← HX.out]; exact H1.out) HP.out)
  have s2 := Lib.hid (Blk.ptSl (p := q) (by rw [← HY.out]; exact H2.out) HQ.out)
  have C1 := Lib.hid c1; have C2 := Lib.hid c2
  have HG := Lib.hid hgd
  clear c1 c2 hgd hg2
  repeat' (first | (with_reducible refine wp_tail (id := 1) 10 (by kernel_rfl) (by kernel_rfl) ?_) | go_values | go_skip | go_guarded | go_step | go_upon | go_back)
  intro w3 hd3
  simp only [List.take_succ_cons, List.take_zero, List.drop_succ_cons, List.drop_zero]
  have c1 := (hd3.cell _).trans C1.out
  have c2 := (hd3.cell _).trans C2.out
  have hbc := bcmp_any _ _ 32 32 32 32 p.1 q.1 w3 (hd3.sl s1.out) (hd3.sl s2.out)
  have hcc := cmpi_any p.2 q.2 w3
  have hoo := fun w => or_two (Lib.compareBytes p.1 q.1) (cmpI p.2 q.2) w
  rw [show (if Lib.compareBytes p.1 q.1 = 0 then cmpI p.2 q.2 else Lib.compareBytes p.1 q.1) = z from HZ.out.symm] at hoo
  generalize cmpI p.2 q.2 = y at *
  generalize Lib.compareBytes p.1 q.1 = x at *
  have HBC := Lib.hid hbc; have HCC := Lib.hid hcc; have HOO := Lib.hid hoo
  have HB3 := Lib.hid (hd3.below HBW.out)
  have HSZ3 := Lib.hid (show g ≤ w3.heap.size by rw [hd3.size]; exact HSZ.out)
  clear hbc hcc hd3 hoo
  repeat still_step
  still_call (HBC.out.mono fun _ _ ⟨he, hw⟩ => ⟨he, hw.symm⟩)
  repeat still_step
  still_call (HCC.out.mono fun _ _ ⟨he, hw⟩ => ⟨he, hw.symm⟩)
  repeat still_step
  try refine wpStill_nil ?_
  clear c1 c2
  go_wp2_with fail
  refine (HOO.out _).mono ?_
  rintro e w' ⟨rfl, rfl⟩
  go_wp2_with fail
  go_ret
  exact ⟨rfl, by rw [HG.out]; exact HB3.out.alloc HSZ3.out _⟩

theorem cb_lt : ∀ (k : Nat) (a b : List UInt8), (∀ j, j < k → a[j]?.getD 0 = b[j]?.getD 0) → k < a.length → k < b.length → a[k]?.getD 0 < b[k]?.getD 0 → Lib.compareBytes a b = -1
  | _, [], _, _, h, _, _ => by simp at h
  | _, _ :: _, [], _, _, h, _ => by simp at h
  | 0, x :: a, y :: b, _, _, _, h => by
    have h2 : x < y := by simpa using h
    rw [Lib.compareBytes]; simp [h2]
  | k + 1, x :: a, y :: b, hj, h1, h2, h => by
    have h0 : x = y := by simpa using hj 0 (by omega)
    subst h0
    rw [Lib.compareBytes]
    have := cb_lt k a b (fun j h => by simpa using hj (j + 1) (by omega)) (by simpa using h1) (by simpa using h2) (by simpa using h)
    simp [this]
theorem cb_gt : ∀ (k : Nat) (a b : List UInt8), (∀ j, j < k → a[j]?.getD 0 = b[j]?.getD 0) → k < a.length → k < b.length → b[k]?.getD 0 < a[k]?.getD 0 → Lib.compareBytes a b = 1
  | _, [], _, _, h, _, _ => by simp at h
  | _, _ :: _, [], _, _, h, _ => by simp at h
  | 0, x :: a, y :: b, _, _, _, h => by
    have h2 : y < x := by simpa using h
    have h3 : ¬ x < y := UInt8.lt_asymm h2
    rw [Lib.compareBytes]; simp [h2, h3]
  | k + 1, x :: a, y :: b, hj, h1, h2, h => by
    have h0 : x = y := by simpa using hj 0 (by omega)
    subst h0
    rw [Lib.compareBytes]
    have := cb_gt k a b (fun j h => by simpa using hj (j + 1) (by omega)) (by simpa using h1) (by simpa using h2) (by simpa using h)
    simp [this]
theorem cb_self : ∀ (a : List UInt8), Lib.compareBytes a a = 0
  | [] => by rw [Lib.compareBytes]
  | x :: a => by rw [Lib.compareBytes]; simp [cb_self a]
theorem eq_of_getD {a b : List UInt8} {n : Nat} (ha : a.length = n) (hb : b.length = n) (h : ∀ j, j < n → a[j]?.getD 0 = b[j]?.getD 0) : a = b := by
  apply List.ext_getElem (by omega)
  intro j h1 h2
  have := h j (by omega)
  rw [List.getElem?_eq_getElem h1, List.getElem?_eq_getElem h2] at this
  exact this
theorem b8_lt {x y : UInt8} : b8 x < b8 y ↔ x < y := by unfold b8; rw [UInt8.lt_iff_toNat_lt]; omega

set_option maxRecDepth 100000 in
set_option maxHeartbeats 1000000 in
theorem rccmp_any (p q : List UInt8 × Int) (w : World) (hp : p.1.length = 32) (hq : q.1.length = 32) :
    Calls Try.prog 61 #[.agg (ptV p).toArray, .agg (ptV q).toArray] w fun e w' => e = .returned (.int .i64 (cmpP p q)) ∧ Below w.heap.size w w' := by
  obtain ⟨xs, hxs⟩ : ∃ xs, xs = ptV p := ⟨_, rfl⟩
  obtain ⟨ys, hys⟩ : ∃ ys, ys = ptV q := ⟨_, rfl⟩
  obtain ⟨z, hz⟩ : ∃ z, z = cmpP p q := ⟨_, rfl⟩
  rw [← hxs, ← hys, ← hz]
  have HZ := Lib.hid hz; clear hz
  have HX := Lib.hid hxs; have HY := Lib.hid hys
  have HP := Lib.hid hp; have HQ := Lib.hid hq
  clear hxs hys hp hq
  go_enter Try.func61, Try.ntmps61
  go_wp2_with (first | (with_reducible refine wpl_box (o := ⟨some 2, _, _, _, _, _⟩) rfl rfl rfl ?_))
  intro w1 hb1 hbw1 hsz1
  generalize hgd : w.heap.size = g at *
  go_wp2_with (first | (with_reducible refine wpl_box (o := ⟨some 3, _, _, _, _, _⟩) rfl rfl rfl ?_))
  intro w2 hb2 hbw2 hsz2
  have H2 := Lib.hid hb2
  have H1 := Lib.hid (hb1.below hbw2 (by omega))
  have HBW := Lib.hid (hbw1.trans (hbw2.mono (by omega)))
  have HG := Lib.hid hgd
  clear hb1 hb2 hbw1 hbw2 hsz1 hsz2 hgd
  generalize g + 1 = g2 at *
  go_wp2_with fail
  go_loopw [5] (fun i wr => ∃ k : Nat, k ≤ 32 ∧ i = .int .i64 k ∧ Hid (∀ j, j < k → p.1[j]?.getD 0 = q.1[j]?.getD 0) ∧ Hid (Drawn w2 wr)) (fun i _ => 32 - (intOf i).toNat)
  case atStart => exact ⟨0, by omega, rfl, fun j hj => absurd hj (by omega), Drawn.refl _⟩
  case round =>
    obtain ⟨k, hk, rfl, HE, HD⟩ := hrel
    by_cases hlt : k < 32
    · have c1 : wr.cell? ⟨g, k, none⟩ = some (.int .u8 (b8 (p.1[k]?.getD 0))) := (HD.out.cell _).trans (H1.out.at_ (by rw [HX.out]; exact ptV_at HP.out hlt))
      have c2 : wr.cell? ⟨g2, k, none⟩ = some (.int .u8 (b8 (q.1[k]?.getD 0))) := (HD.out.cell _).trans (H2.out.at_ (by rw [HY.out]; exact ptV_at HQ.out hlt))
      generalize hx : p.1[k]?.getD 0 = x at *
      generalize hy : q.1[k]?.getD 0 = y at *
      have HX2 := Lib.hid hx; have HY2 := Lib.hid hy
      clear hx hy
      have gk : (k : Int) < 32 := by omega
      by_cases h1 : b8 x < b8 y
      · repeat' (first | (with_reducible refine wp_region_quiet_lit (id := 4) (by kernel_rfl) (by kernel_rfl) ?_) | go_values | go_skip | go_guarded | go_step | go_upon | go_back)
        repeat (quiet_step (fail))
        refine wpQuiet_nil ?_
        intro _ hw'
        obtain ⟨nq, hw''⟩ := hw'
        subst hw''
        go_wp2_with fail
        go_ret
        have e : Lib.compareBytes p.1 q.1 = -1 := cb_lt k _ _ HE.out (by rw [HP.out]; exact hlt) (by rw [HQ.out]; exact hlt) (by rw [HX2.out, HY2.out]; exact b8_lt.1 h1)
        exact ⟨ret_int (by rw [HZ.out, cmpP, e]; rfl), by rw [HG.out]; exact (Drawn.n _ _).below (HD.out.below HBW.out)⟩
      · repeat' (first | (with_reducible refine wp_region_quiet_lit (id := 4) (by kernel_rfl) (by kernel_rfl) ?_) | go_values | go_skip | go_guarded | go_step | go_upon | go_back)
        repeat (quiet_step (fail))
        refine wpQuiet_nil ?_
        intro _ hw'
        obtain ⟨nq, hw''⟩ := hw'
        subst hw''
        clear c1 c2
        have hd2 : Drawn w2 (wr.drewN nq) := HD.out.trans ⟨nq, rfl⟩
        generalize wr.drewN nq = wr1 at hd2 ⊢
        have c1 : wr1.cell? ⟨g, k, none⟩ = some (.int .u8 (b8 x)) := (hd2.cell _).trans (H1.out.at_ (by rw [HX.out]; exact (ptV_at HP.out hlt).trans (by rw [HX2.out])))
        have c2 : wr1.cell? ⟨g2, k, none⟩ = some (.int .u8 (b8 y)) := (hd2.cell _).trans (H2.out.at_ (by rw [HY.out]; exact (ptV_at HQ.out hlt).trans (by rw [HY2.out])))
        have HD2 := Lib.hid hd2
        clear hd2 HD
        by_cases h2 : b8 y < b8 x
        · repeat' (first | (with_reducible refine wp_region_quiet_lit (id := 6) (by kernel_rfl) (by kernel_rfl) ?_) | go_values | go_skip | go_guarded | go_step | go_upon | go_back)
          repeat (quiet_step (fail))
          refine wpQuiet_nil ?_
          intro _ hw'
          obtain ⟨nq, hw''⟩ := hw'
          subst hw''
          go_wp2_with fail
          go_ret
          have e : Lib.compareBytes p.1 q.1 = 1 := cb_gt k _ _ HE.out (by rw [HP.out]; exact hlt) (by rw [HQ.out]; exact hlt) (by rw [HX2.out, HY2.out]; exact b8_lt.1 h2)
          exact ⟨ret_int (by rw [HZ.out, cmpP, e]; rfl), by rw [HG.out]; exact (Drawn.n _ _).below (HD2.out.below HBW.out)⟩
        · repeat' (first | (with_reducible refine wp_region_quiet_lit (id := 6) (by kernel_rfl) (by kernel_rfl) ?_) | go_values | go_skip | go_guarded | go_step | go_upon | go_back)
          repeat (quiet_step (fail))
          refine wpQuiet_nil ?_
          intro _ hw'
          obtain ⟨nq, hw''⟩ := hw'
          subst hw''
          clear c1 c2
          have HD3 := Lib.hid (HD2.out.trans ⟨nq, rfl⟩)
          have e : x = y := b8_inj (by omega)
          go_wp2_with fail
          go_roundw
          case rel => exact ⟨k + 1, by omega, by go_num, fun j hj => by
            by_cases hjk : j = k
            · subst hjk; rw [HX2.out, HY2.out, e]
            · exact HE.out j (by omega), HD3.out⟩
          case measure => simp [intOf]; omega
    · obtain rfl : k = 32 := by omega
      have e := eq_of_getD HP.out HQ.out HE.out
      have e2 : z = cmpI p.2 q.2 := by rw [HZ.out, cmpP, e, cb_self, if_pos rfl]
      have HE2 := Lib.hid e2
      clear e e2 HZ
      have c1 : wr.cell? ⟨g, 32, none⟩ = some (.int .i64 p.2) := (HD.out.cell _).trans (H1.out.at_ (by rw [HX.out]; exact ptV_ix HP.out))
      have c2 : wr.cell? ⟨g2, 32, none⟩ = some (.int .i64 q.2) := (HD.out.cell _).trans (H2.out.at_ (by rw [HY.out]; exact ptV_ix HQ.out))
      generalize p.2 = u at *
      generalize q.2 = v at *
      obtain ⟨wo, rfl⟩ : ∃ wo : World, wo = wr := ⟨_, rfl⟩
      have HBF := Lib.hid (HD.out.below HBW.out)
      by_cases h1 : u < v
      · go_wp2_with fail
        go_ret
        exact ⟨ret_int (by rw [HE2.out, cmpI, if_pos h1]), by rw [HG.out]; exact HBF.out⟩
      · by_cases h2 : v < u
        · go_wp2_with fail
          go_ret
          exact ⟨ret_int (by rw [HE2.out, cmpI, if_neg (by omega), if_pos h2]), by rw [HG.out]; exact HBF.out⟩
        · go_wp2_with fail
          go_ret
          exact ⟨ret_int (by rw [HE2.out, cmpI, if_neg (by omega), if_neg (by omega)]), by rw [HG.out]; exact HBF.out⟩
end Go.Proofs.Ytolbbhbfbpiljaa

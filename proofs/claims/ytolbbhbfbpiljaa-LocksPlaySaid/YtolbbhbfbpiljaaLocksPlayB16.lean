/- The contract of seisinref01.Bytes: the same bytes? -/
import Derived.Test.YtolbbhbfbpiljaaRows
import Derived.Test.YtolbbhbfbpiljaaLocksPlayB9
import Derived.Test.YtolbbhbfbpiljaaLocksPlayB2
import Derived.Test.YtolbbhbfbpiljaaLocksPlayB15
import Derived.Test.YtolbbhbfbpiljaaLocksPlayB10
import Derived.OpenShut
import Derived.ChangeSame
import Derived.Deep.Slices
import Derived.Test.YtolbbhbfbpiljaaLocksPlayB4
import Derived.Test.YtolbbhbfbpiljaaChecked
import Derived.Test.YtolbbhbfbpiljaaLocksPlayB1
import Derived.Shelf.SlMaps.Clone
set_option linter.unusedSimpArgs false
/- The contract of seisinref01.Bytes: the same bytes? -/
namespace Go.Proofs.Ytolbbhbfbpiljaa
open Go.RowKit
set_option linter.unusedVariables false
set_option maxRecDepth 100000 in
set_option maxHeartbeats 1000000 in
theorem bytesq_any {res : Bool} {A A2 : Option Addr} {n c n2 c2 : Nat} {xs ys : List UInt8} (hres : decide (xs = ys) = res) (w : World) (h1 : Sl w w.heap.size 1 A n (xs.map B)) (h2 : Sl w w.heap.size 1 A2 n2 (ys.map B)) (hn : n ≤ 1000000) :
    Calls Try.prog 65 #[.slice A n c, .slice A2 n2 c2] w fun e w' => e = .returned (.bool res) ∧ Below w.heap.size w w' := by
  have H1 := Lib.hid h1; have H2 := Lib.hid h2
  have HL1 := Lib.hid (show xs.length = n by have := h1.len; simpa using this)
  have HL2 := Lib.hid (show ys.length = n2 by have := h2.len; simpa using this)
  have HRES := Lib.hid hres
  clear h1 h2 hres
  by_cases hnn : n = n2
  · subst hnn
    have z1 : ((n : Int) != (n : Int)) = false := by simp
    go_enter Try.func65, Try.ntmps65
    go_wp2_with fail
    go_loopw [5] (fun i wr => ∃ k : Nat, k ≤ n ∧ i = .int .i64 k ∧ Hid (xs.take k = ys.take k) ∧ Hid (Below w.heap.size w wr)) (fun i _ => n - (intOf i).toNat)
    case atStart => exact ⟨0, by omega, rfl, Lib.hid (by simp), Lib.hid (Below.refl _ _)⟩
    case round =>
      obtain ⟨k, hk, rfl, heq, hbw⟩ := hrel
      by_cases hlt : k < n
      · have HB := hbw
        have H1A := Lib.hid ((H1.out.below HB.out).more HB.out.size)
        have H2A := Lib.hid ((H2.out.below HB.out).more HB.out.size)
        obtain ⟨x, hx⟩ : ∃ x, xs[k]? = some x := ⟨_, List.getElem?_eq_getElem (by rw [HL1.out]; exact hlt)⟩
        obtain ⟨y, hy⟩ : ∃ y, ys[k]? = some y := ⟨_, List.getElem?_eq_getElem (by rw [HL2.out]; exact hlt)⟩
        have HX := Lib.hid hx; have HY := Lib.hid hy
        clear hx hy
        by_cases hxy : x = y
        · subst hxy
          try go_wp2_with fail
          repeat' (first | (with_reducible refine wp_plan (id := 6) Grow [0,0,0,2,0,0,0,2,0] (.get 0 (.get 1 (.get 2 (.get 3 (.get 4 (.get 5 (.get 6 (.get 7 (.get 8 .done))))))))) (by kernel_rfl) (by kernel_rfl) Grow.refl Grow.trans ?_) | go_values | go_skip | go_guarded | go_step | go_upon | go_back)
          intro w_ hd_
          have hb_ := hd_.grow
          have HB_ := Lib.hid (HB.out.grow' hb_)
          clear HB
          have HB := HB_
          clear HB_
          have H1A_ := Lib.hid (H1A.out.grow hb_)
          clear H1A
          have H1A := H1A_
          clear H1A_
          have H2A_ := Lib.hid (H2A.out.grow hb_)
          clear H2A
          have H2A := H2A_
          clear H2A_
          clear hb_ hd_
          obtain ⟨b1, o1, u1, rfl, hb1, hu1, hc1⟩ := H1A.out.at_ hlt
          obtain ⟨b2, o2, u2, rfl, hb2, hu2, hc2⟩ := H2A.out.at_ hlt
          obtain rfl : u1 = .int .u8 (b8 x) := by rw [List.getElem?_map, HX.out] at hu1; exact (Option.some.inj hu1).symm
          obtain rfl : u2 = .int .u8 (b8 x) := by rw [List.getElem?_map, HY.out] at hu2; exact (Option.some.inj hu2).symm
          clear hb1 hb2 hu1 hu2
          repeat (first | (refine pl_calm rfl rfl (by first | exact wanted_none rfl | (go_simp; done) | rfl) (fun w_ => by first | (go_simp; rfl) | (go_simp; done) | rfl) (fun K hK => ?_); go_simp; refine hK _ _ ?_; clear hK K) | (refine pl_skip rfl (by first | (go_simp; done) | rfl) (fun K hK => ?_); go_simp; refine hK _ _ ?_; clear hK K) | (refine pl_skipa rfl (by first | (go_simp; done) | rfl) (fun K hK => ?_); go_simp; refine hK _ _ ?_; clear hK K) | (refine pl_load rfl rfl (by first | exact wanted_none rfl | (go_simp; done) | rfl) rfl (by first | rfl | (go_simp; rfl)) (by kernel_rfl) (by first | exact hc1 | exact hc2) (fun K hK => ?_); go_simp; refine hK _ _ ?_; clear hK K) | (refine pl_loadnow rfl rfl (by first | exact wanted_none rfl | (go_simp; done) | rfl) rfl (by first | rfl | (go_simp; rfl)) (by kernel_rfl) (by first | exact hc1 | exact hc2) (fun K hK => ?_); go_simp; refine hK _ _ ?_; clear hK K))
          refine pl_done ?_
          clear hc1 hc2
          have HE := Lib.hid (show xs.take (k + 1) = ys.take (k + 1) by rw [List.take_add_one, List.take_add_one, heq.out, HX.out, HY.out])
          go_wp2_with fail
          go_roundw
          case rel => exact ⟨k + 1, by omega, by go_num, HE, HB⟩
          case measure => simp [intOf]; omega
        · have hbb : ((b8 x) != (b8 y)) = true := by
            have : b8 x ≠ b8 y := fun h => hxy (b8_inj h)
            simpa using this
          have HF := Lib.hid (show res = false by
            rw [← HRES.out]
            have : xs ≠ ys := fun h => by
              subst h
              have h1 := HX.out
              rw [HY.out] at h1
              exact hxy (Option.some.inj h1).symm
            simpa using this)
          have hne : b8 x ≠ b8 y := fun h => hxy (b8_inj h)
          have hq := eq_false hne
          clear hxy
          try go_wp2_with fail
          repeat' (first | (with_reducible refine wp_plan (id := 6) Grow [0,0,0,2,0,0,0,2,0] (.get 0 (.get 1 (.get 2 (.get 3 (.get 4 (.get 5 (.get 6 (.get 7 (.get 8 .done))))))))) (by kernel_rfl) (by kernel_rfl) Grow.refl Grow.trans ?_) | go_values | go_skip | go_guarded | go_step | go_upon | go_back)
          intro w_ hd_
          have hb_ := hd_.grow
          have HB_ := Lib.hid (HB.out.grow' hb_)
          clear HB
          have HB := HB_
          clear HB_
          have H1A_ := Lib.hid (H1A.out.grow hb_)
          clear H1A
          have H1A := H1A_
          clear H1A_
          have H2A_ := Lib.hid (H2A.out.grow hb_)
          clear H2A
          have H2A := H2A_
          clear H2A_
          clear hb_ hd_
          obtain ⟨b1, o1, u1, rfl, hb1, hu1, hc1⟩ := H1A.out.at_ hlt
          obtain ⟨b2, o2, u2, rfl, hb2, hu2, hc2⟩ := H2A.out.at_ hlt
          obtain rfl : u1 = .int .u8 (b8 x) := by rw [List.getElem?_map, HX.out] at hu1; exact (Option.some.inj hu1).symm
          obtain rfl : u2 = .int .u8 (b8 y) := by rw [List.getElem?_map, HY.out] at hu2; exact (Option.some.inj hu2).symm
          clear hb1 hb2 hu1 hu2
          repeat (first | (refine pl_calm rfl rfl (by first | exact wanted_none rfl | (go_simp; done) | rfl) (fun w_ => by first | (go_simp; rfl) | (go_simp; done) | rfl) (fun K hK => ?_); go_simp; refine hK _ _ ?_; clear hK K) | (refine pl_skip rfl (by first | (go_simp; done) | rfl) (fun K hK => ?_); go_simp; refine hK _ _ ?_; clear hK K) | (refine pl_skipa rfl (by first | (go_simp; done) | rfl) (fun K hK => ?_); go_simp; refine hK _ _ ?_; clear hK K) | (refine pl_load rfl rfl (by first | exact wanted_none rfl | (go_simp; done) | rfl) rfl (by first | rfl | (go_simp; rfl)) (by kernel_rfl) (by first | exact hc1 | exact hc2) (fun K hK => ?_); go_simp; refine hK _ _ ?_; clear hK K) | (refine pl_loadnow rfl rfl (by first | exact wanted_none rfl | (go_simp; done) | rfl) rfl (by first | rfl | (go_simp; rfl)) (by kernel_rfl) (by first | exact hc1 | exact hc2) (fun K hK => ?_); go_simp; refine hK _ _ ?_; clear hK K))
          refine pl_done ?_
          clear hc1 hc2
          go_wp2_with fail
          go_ret
          exact ⟨by rw [HF.out]; rfl, HB.out⟩
      · obtain rfl : k = n := by omega
        have HT := Lib.hid (show res = true by
          rw [← HRES.out]
          have h := heq.out
          rw [List.take_of_length_le (by rw [HL1.out]; exact Nat.le_refl _), List.take_of_length_le (by rw [HL2.out]; exact Nat.le_refl _)] at h
          simpa using h)
        go_wp2_with fail
        go_ret
        exact ⟨by rw [HT.out]; rfl, hbw.out⟩
  · have z1 : ((n : Int) != (n2 : Int)) = true := by simp; omega
    have HF := Lib.hid (show res = false by
      rw [← HRES.out]
      have : xs ≠ ys := fun h => by subst h; exact hnn (by rw [← HL1.out, ← HL2.out])
      simpa using this)
    have hz : ¬ ((n : Int) = (n2 : Int)) := by omega
    have hzq := eq_false hz
    go_enter Try.func65, Try.ntmps65
    go_wp2_with fail
    go_ret
    exact ⟨by rw [HF.out]; rfl, Below.refl _ _⟩
end Go.Proofs.Ytolbbhbfbpiljaa

/- The contract of seisinlaw21.is: locks that are the document's are told as such. Printed by mkisk.py. -/
namespace Go.Proofs.Ytolbbhbfbpiljaa
open Go.RowKit Go.Maps Go.Sort Go.Shelf
set_option linter.unusedVariables false
theorem bytesK_le {X : LocksL} (hn : X.length ≤ 64) (ho : ∀ e ∈ X, AtOKK e) (hx : IxOKK X) : (bytesK X).length ≤ 30000 := by
  have h1 := numB_le (n := X.length) (by omega)
  have h2 : ∀ Y : LocksL, (∀ e ∈ Y, (putAtK e).length ≤ 114) → (Y.flatMap putAtK).length ≤ Y.length * 114 := by
    intro Y
    induction Y with
    | nil => intro _; simp
    | cons e r ih =>
      intro h
      have h3 := ih (fun x hx => h x (List.mem_cons_of_mem _ hx))
      have h4 := h e (List.mem_cons_self ..)
      rw [List.flatMap_cons, List.length_append, List.length_cons]; omega
  have h3 := h2 X (fun e he => by
    have h4 := ho e he; have h5 := hx e he
    have h6 := numB_le (n := e.1.2.toNat) (by omega)
    have h7 := numB_le (n := e.2.1.2.toNat) (by have := h4.2.1.2; omega)
    unfold putAtK
    simp only [List.length_append, h4.1.1, h4.2.2, h4.2.1.1]; omega)
  unfold bytesK
  rw [List.length_append]; omega
abbrev spR (q : Nat) (pl : List PtK) : Sp := spS q (fun A _ w => RowPt w A q pl) (fun _ _ _ _ h k => RowPt.grow h k)
theorem len_idk : zidV.length = 32 := zidV_len
theorem aid_self0 (d : List UInt8) (h : d.length = 32) : ∀ w, (Op.equalIn 10000 29 (.agg (d.map B).toArray) (.agg (d.map B).toArray)).run Try.prog w = .ok true w := fun w => by
  have := idk_eq d d h h w
  rwa [decide_eq_true rfl] at this
theorem ofK_len (X : LocksL) (id : List UInt8) : (ofK X id).length ≤ X.length := by unfold ofK; rw [List.length_map]; exact List.length_filter_le _ _
theorem of_sp {g b : Nat} {X L : LocksL} {s : Int} (hr : RelK X L s) {id : List UInt8} (hi : id.length = 32) (w : World) (h : LocksAt w g b L s) :
    Calls Try.prog 23 #[.pointer (some ⟨g, 0, none⟩), .agg (id.map B).toArray] w fun e w' => ∃ A c, e = .returned (.slice A (ofK X id).length c) ∧ RowPt w' A (ofK X id).length (ofK X id) ∧ Below w.heap.size w w' := by
  refine (kof_any g b L s id w h hi (by have := hr.len; omega)).mono ?_
  rintro e w' ⟨A, n, c, ss, ks, rfl, ho, hk, hp, -, hb⟩
  have h1 := hr.of_eq hk hp
  have h2 := ho.rowPt
  rw [h1] at h2
  obtain rfl : n = (ofK X id).length := h2.2.2.symm
  exact ⟨A, c, rfl, h2, hb⟩
theorem rof_sp {A : Option Addr} {n c : Nat} {X : LocksL} {id : List UInt8} (w : World) (h : RowK w A n X) (hi : id.length = 32) (hn : n ≤ 1000000) :
    Calls Try.prog 40 #[.slice A n c, .agg (id.map B).toArray] w fun e w' => ∃ A' c', e = .returned (.slice A' (ofK X id).length c') ∧ RowPt w' A' (ofK X id).length (ofK X id) ∧ Below w.heap.size w w' := by
  refine (rof21_any (c := c) id w h hi hn).mono ?_
  rintro e w' ⟨A', n', c', rfl, h2, hb⟩
  obtain rfl : n' = (ofK X id).length := h2.2.2.symm
  exact ⟨A', c', rfl, h2, hb⟩
set_option maxRecDepth 100000 in
set_option maxHeartbeats 8000000 in
theorem isK_any (g b : Nat) (X L : LocksL) (s : Int) {A : Option Addr} {n c : Nat} (w : World) (h : LocksAt w g b L s) (hr : RelK X L s) (hx : RowK w A n X) :
    Calls Try.prog 42 #[.pointer (some ⟨g, 0, none⟩), .slice A n c] w fun e w' => e = .returned (.bool true) ∧ Below w.heap.size w w' := by
  have HR := Lib.hid hr
  have hXn : X.length = n := hx.2.2
  have hLn : L.length = n := by rw [← hr.lenX, hXn]
  have hn64 : n ≤ 64 := by rw [← hLn]; exact hr.len
  have hs := hr.max; have hs0 := hr.nn
  have HLEN := Lib.hid (fun w' (h' : LocksAt w' g b L s) => show Calls Try.prog 21 #[.pointer (some ⟨g, 0, none⟩)] w' fun e w'' => e = .returned (.int .i64 (n : Int)) ∧ w' = w'' from by have := klen_any g b L s w' h'; rwa [hLn] at this)
  have HSUM := Lib.hid (fun w' (h' : LocksAt w' g b L s) => ksum_any g b L s w' h')
  have HRSUM := Lib.hid (fun w' (h' : RowK w' A n X) => show Calls Try.prog 68 #[.slice A n c] w' fun e w'' => e = .returned (.int .u64 s) ∧ w' = w'' from by have := rsum21_any (c := c) w' h' (by omega) (by rw [hr.amt]; omega); rwa [hr.amt] at this)
  have HC := Lib.hid h; have HX := Lib.hid hx
  have HXN := Lib.hid hXn
  clear h hr hx hXn hLn
  have z1 : ((n : Int) != (n : Int)) = false := by simp
  have z2 : (s != s) = false := by simp
  obtain ⟨w_, hw⟩ : ∃ x, x = w := ⟨_, rfl⟩
  have HB := Lib.hid (show Below w.heap.size w w_ by rw [hw]; exact Below.refl _ _)
  suffices H : Calls Try.prog 42 #[.pointer (some ⟨g, 0, none⟩), .slice A n c] w_ (fun e w' => e = .returned (.bool true) ∧ Below w.heap.size w w') by rw [hw] at H; exact H
  clear hw
  go_enter Try.func42, Try.ntmps42
  go_wp2_with fail
  refine (HLEN.out w_ (HC.out.call HB.out)).mono ?_
  rintro e w0 ⟨rfl, rfl⟩
  go_wp2_with fail
  refine (HSUM.out _ (HC.out.call HB.out)).mono ?_
  rintro e w0 ⟨rfl, rfl⟩
  go_wp2_with fail
  refine (HRSUM.out _ (HX.out.call HB.out)).mono ?_
  rintro e w0 ⟨rfl, rfl⟩
  clear HLEN HSUM HRSUM z1
  go_wp2_with fail
  clear z2
  go_loopw [5] (fun iv wr => ∃ k : Nat, k ≤ n ∧ iv = .int .i64 k ∧ Hid (Below w.heap.size w wr)) (fun iv _ => n - (intOf iv).toNat)
  case atStart => exact ⟨0, by omega, rfl, HB⟩
  case round =>
    obtain ⟨k, hk, rfl, hI⟩ := hrel
    clear HB
    have HB := hI
    clear hI
    try clear w_
    rename World => w_
    by_cases hlt : k < n
    · obtain ⟨bx, off, p, rfl, hbl, hp, hok, hcc⟩ := HX.out.at_ hlt
      have hmem := List.mem_of_getElem? hp
      have hlk : lookL L p.1 = some p.2 := lookL_eq HR.out.ok.2 (HR.out.perm.mem_iff.1 hmem)
      have HGET := Lib.hid (fun w' (h' : LocksAt w' g b L s) => show Calls Try.prog 25 #[.pointer (some ⟨g, 0, none⟩), .agg (ptV p.1).toArray] w' fun e w'' => e = .returned (.tuple #[.agg (p.2.2.map B).toArray, .agg (coinV p.2.1).toArray, .bool true]) ∧ Below w'.heap.size w' w'' from by have := kget_any g b L s p.1 w' h' hok.1; rw [hlk] at this; exact this)
      have HML := Lib.hid (show ∀ w', Below w.heap.size w w' → ∀ j u, (ptV p.1)[j]? = some u → w'.cell? ⟨bx, off + k * 98 + j, none⟩ = some u from fun w' hb j u hu => by
        have h1 := hcc (0 + j) u (encAtK_pt hok hu)
        rw [Nat.zero_add] at h1
        exact bcell hb h1)
      have HMI := Lib.hid (show ∀ w', Below w.heap.size w w' → ∀ j u, (p.2.2.map B)[j]? = some u → w'.cell? ⟨bx, off + k * 98 + 33 + j, none⟩ = some u from fun w' hb j u hu => by
        have h1 := hcc (33 + j) u (encAtK_for0 hok hu)
        rw [← Nat.add_assoc] at h1
        exact bcell hb h1)
      have HMO := Lib.hid (show ∀ w', Below w.heap.size w w' → ∀ j u, (coinV p.2.1)[j]? = some u → w'.cell? ⟨bx, off + k * 98 + 65 + j, none⟩ = some u from fun w' hb j u hu => by
        have h3 : (p.2.2.map B).length = 32 := by rw [List.length_map, hok.2.2]
        have h1 := hcc (33 + (32 + j)) u (encAtK_ref hok (by unfold refV; rw [List.getElem?_append_right (by omega), h3, show 32 + j - 32 = j by omega]; exact hu))
        rw [show off + k * 98 + (33 + (32 + j)) = off + k * 98 + 65 + j by omega] at h1
        exact bcell hb h1)
      have HPC := Lib.hid (ptV_cl hok.1); have HVC := Lib.hid (coinV_cl hok.2.1); have HIC := Lib.hid (aidV_cl hok.2.2)
      have HQI := Lib.hid (aid_self0 p.2.2 hok.2.2); have HQC := Lib.hid (coin_self p.2.1 hok.2.1)
      have HOF := Lib.hid (fun w' (h' : LocksAt w' g b L s) => of_sp HR.out (id := p.2.2) hok.2.2 w' h')
      have HRO := Lib.hid (fun w' (h' : RowK w' (some ⟨bx, off, none⟩) n X) => rof_sp (c := c) (id := p.2.2) w' h' hok.2.2 (by omega))
      have hq : (ofK X p.2.2).length ≤ 1000000 := by have := ofK_len X p.2.2; have := HXN.out; omega
      obtain ⟨pl, hpl⟩ : ∃ q, q = ofK X p.2.2 := ⟨_, rfl⟩
      rw [← hpl] at HOF HRO hq
      obtain ⟨q, hqq⟩ : ∃ q, q = pl.length := ⟨_, rfl⟩
      rw [← hqq] at HOF HRO hq
      obtain ⟨es, hes⟩ : ∃ q, q = ptV p.1 := ⟨_, rfl⟩
      obtain ⟨cs, hcs⟩ : ∃ q, q = coinV p.2.1 := ⟨_, rfl⟩
      obtain ⟨is, his⟩ : ∃ q, q = p.2.2.map B := ⟨_, rfl⟩
      rw [← hes] at HPC HML HGET
      rw [← hcs] at HVC HMO HQC HGET
      rw [← his] at HIC HMI HQI HGET HOF HRO
      have HQ := Lib.hid hq
      clear hp hmem hok hlk hes hcs his hcc hbl hpl hqq hq
      have HM0 := Lib.hid (HML.out w_ HB.out)
      go_wp2_with (first | (with_reducible refine wpl_loadm (o := ⟨some 38, _, _, _, _, _⟩) rfl rfl row_point HM0.out rfl HPC.out.len ?_))
      refine Calls.mono (show Calls Try.prog 25 _ w_ _ from HGET.out w_ (HC.out.call HB.out)) ?_
      rintro e w_ ⟨rfl, hb_⟩
      have HB_ := Lib.hid (HB.out.grow' hb_)
      clear HB
      have HB := HB_
      clear HB_
      clear hb_
      clear HM0 HGET
      go_wp2_with (first | (with_reducible refine wpl_alloc (o := ⟨some 6, _, _, _, _, _⟩) rfl rfl zero_idk ?_))
      intro w2_ hb2_ hb_ hsz2_
      have HX_ := Lib.hid (at_mk hb2_ len_idk)
      clear hb2_ hsz2_
      have HG_ := Lib.hid HB.out.size
      have HB_ := Lib.hid (HB.out.grow' hb_)
      clear HB
      have HB := HB_
      clear HB_
      generalize hg_ : w_.heap.size = gI at HX_ HG_ ⊢
      clear hg_
      have HI_g := HG_
      clear HG_
      have HI := HX_
      clear hb_ HX_
      try clear w_
      rename World => w_
      go_wp2_with (first | (with_reducible refine wpl_alloc (o := ⟨some 7, _, _, _, _, _⟩) rfl rfl zero_coin ?_))
      intro w2_ hb2_ hb_ hsz2_
      have HX_ := Lib.hid (at_mk hb2_ len_coin)
      clear hb2_ hsz2_
      have HG_ := Lib.hid HB.out.size
      have HV_HI := Lib.hid (Nat.ne_of_lt HI.out.lt)
      have HB_ := Lib.hid (HB.out.grow' hb_)
      clear HB
      have HB := HB_
      clear HB_
      have HI_ := Lib.hid (HI.out.grow hb_)
      clear HI
      have HI := HI_
      clear HI_
      generalize hg_ : w_.heap.size = gV at HX_ HG_ HV_HI ⊢
      clear hg_
      have HV_g := HG_
      clear HG_
      have HV := HX_
      clear hb_ HX_
      try clear w_
      rename World => w_
      have HNE := Lib.hid (HV_HI.out.symm)
      go_wp2_with (first | (with_reducible refine wpl_storeb (o := ⟨none, .store _ _ _, _, _, _, _⟩) rfl rfl row_idk HI.out.blk rfl rfl HI.out.len HIC.out.len HIC.out.one ?_))
      intro w2_ hb2_ hg2_ hsz2_
      have HB_ := Lib.hid (put_below HB.out HI_g.out hg2_)
      have HX_ := Lib.hid (at_mk hb2_ HIC.out.len)
      have HV_ := Lib.hid (At.off HV.out hg2_ HNE.out)
      clear hb2_ hg2_ hsz2_ HB HI HV
      have HB := HB_; have HI := HX_
      have HV := HV_
      clear HB_ HX_ HV_
      try clear w_
      rename World => w_
      go_wp2_with (first | (with_reducible refine wpl_storeb (o := ⟨none, .store _ _ _, _, _, _, _⟩) rfl rfl row_coin HV.out.blk rfl rfl HV.out.len HVC.out.len HVC.out.one ?_))
      intro w2_ hb2_ hg2_ hsz2_
      have HB_ := Lib.hid (put_below HB.out HV_g.out hg2_)
      have HX_ := Lib.hid (at_mk hb2_ HVC.out.len)
      have HI_ := Lib.hid (At.off HI.out hg2_ HV_HI.out)
      clear hb2_ hg2_ hsz2_ HB HV HI
      have HB := HB_; have HV := HX_
      have HI := HI_
      clear HB_ HX_ HI_
      try clear w_
      rename World => w_
      go_wp2_with fail
      try go_wp2_with fail
      repeat' (first | (with_reducible refine wp_flow (id := 7) [0,1,3,7,7,7,55,119,247,511,1023,2047,4095,4095,4095,28671,61439,126975,262143,524287,1048575,2097151,2097151,8388607,2097151,2097151,67108863,134217727,268435455,536870911] [0,0,0,0,0,0,0,0,0,0,0,0,0,0,0,0,0,0,0,0,0,0,0,3,0,0,3,3,0,0] (fun i => match i with | 23 => spR q pl | 26 => spR q pl | 27 => spV (.bool true) | _ => spV undef) (by kernel_rfl) (by kernel_rfl) ?_) | go_values | go_skip | go_guarded | go_step | go_upon | go_back)
      intro w_ hd_
      have hb_ := hd_.grow
      have HB_ := Lib.hid (HB.out.grow' hb_)
      clear HB
      have HB := HB_
      clear HB_
      have HI_ := Lib.hid (HI.out.grow hb_)
      clear HI
      have HI := HI_
      clear HI_
      have HV_ := Lib.hid (HV.out.grow hb_)
      clear HV
      have HV := HV_
      clear HV_
      clear hb_ hd_
      show wpL _ _ _ _ _ _ _ [0,1,2,3,4,5,6,7,8,9,10,11,12,13,14,15,16,17,18,19,20,21,22,23,24,25,26,27,28,29] _ _
      refine fl_calm rfl (by decide) (by first | exact wanted_none rfl | (go_simp; done) | fail) (fun w_ _ _ => by first | (go_simp; rfl) | (go_simp; done) | rfl) (fun K hK => ?_)
      go_simp
      refine hK _ ?_
      clear hK K
      refine fl_calm rfl (by decide) (by first | exact wanted_none rfl | (go_simp; done) | fail) (fun w_ _ _ => by first | (go_simp; rfl) | (go_simp; done) | rfl) (fun K hK => ?_)
      go_simp
      refine hK _ ?_
      clear hK K
      refine fl_calm rfl (by decide) (by first | exact wanted_none rfl | (go_simp; done) | fail) (fun w_ _ _ => by first | (go_simp; rfl) | (go_simp; done) | rfl) (fun K hK => ?_)
      go_simp
      refine hK _ ?_
      clear hK K
      refine fl_loadb rfl (by decide) (by first | exact wanted_none rfl | (go_simp; done) | fail) rfl row_idk HI.out.blk (by first | rfl | (go_simp; done) | rfl) HI.out.len (fun K hK => ?_)
      go_simp
      refine hK _ ?_
      clear hK K
      refine fl_calm rfl (by decide) (by first | exact wanted_none rfl | (go_simp; done) | fail) (fun w_ _ _ => by first | (go_simp; rfl) | (go_simp; done) | rfl) (fun K hK => ?_)
      go_simp
      refine hK _ ?_
      clear hK K
      refine fl_calm rfl (by decide) (by first | exact wanted_none rfl | (go_simp; done) | fail) (fun w_ _ _ => by first | (go_simp; rfl) | (go_simp; done) | rfl) (fun K hK => ?_)
      go_simp
      refine hK _ ?_
      clear hK K
      refine fl_calm rfl (by decide) (by first | exact wanted_none rfl | (go_simp; done) | fail) (fun w_ _ _ => by first | (go_simp; rfl) | (go_simp; done) | rfl) (fun K hK => ?_)
      go_simp
      refine hK _ ?_
      clear hK K
      refine fl_calm rfl (by decide) (by first | exact wanted_none rfl | (go_simp; done) | fail) (fun w_ _ _ => by first | (go_simp; rfl) | (go_simp; done) | rfl) (fun K hK => ?_)
      go_simp
      refine hK _ ?_
      clear hK K
      refine fl_loadm rfl (by decide) (by first | exact wanted_none rfl | (go_simp; done) | fail) rfl row_idk (HMI.out _ HB.out) (by first | rfl | (go_simp; done) | rfl) HIC.out.len (fun K hK => ?_)
      go_simp
      refine hK _ ?_
      clear hK K
      refine fl_calm rfl (by decide) (by first | exact wanted_none rfl | (go_simp; done) | fail) (fun w_ _ _ => by have c1 := HQI.out; first | (go_simp; rfl) | (go_simp; done) | rfl) (fun K hK => ?_)
      go_simp
      refine hK _ ?_
      clear hK K
      refine fl_calm rfl (by decide) (by first | exact wanted_none rfl | (go_simp; done) | fail) (fun w_ _ _ => by first | (go_simp; rfl) | (go_simp; done) | rfl) (fun K hK => ?_)
      go_simp
      refine hK _ ?_
      clear hK K
      refine fl_calm rfl (by decide) (by first | exact wanted_none rfl | (go_simp; done) | fail) (fun w_ _ _ => by first | (go_simp; rfl) | (go_simp; done) | rfl) (fun K hK => ?_)
      go_simp
      refine hK _ ?_
      clear hK K
      refine fl_loadb rfl (by decide) (by first | exact wanted_none rfl | (go_simp; done) | fail) rfl row_coin HV.out.blk (by first | rfl | (go_simp; done) | rfl) HV.out.len (fun K hK => ?_)
      go_simp
      refine hK _ ?_
      clear hK K
      refine fl_calm rfl (by decide) (by first | exact wanted_none rfl | (go_simp; done) | fail) (fun w_ _ _ => by first | (go_simp; rfl) | (go_simp; done) | rfl) (fun K hK => ?_)
      go_simp
      refine hK _ ?_
      clear hK K
      refine fl_calm rfl (by decide) (by first | exact wanted_none rfl | (go_simp; done) | fail) (fun w_ _ _ => by first | (go_simp; rfl) | (go_simp; done) | rfl) (fun K hK => ?_)
      go_simp
      refine hK _ ?_
      clear hK K
      refine fl_calm rfl (by decide) (by first | exact wanted_none rfl | (go_simp; done) | fail) (fun w_ _ _ => by first | (go_simp; rfl) | (go_simp; done) | rfl) (fun K hK => ?_)
      go_simp
      refine hK _ ?_
      clear hK K
      refine fl_calm rfl (by decide) (by first | exact wanted_none rfl | (go_simp; done) | fail) (fun w_ _ _ => by first | (go_simp; rfl) | (go_simp; done) | rfl) (fun K hK => ?_)
      go_simp
      refine hK _ ?_
      clear hK K
      refine fl_loadm rfl (by decide) (by first | exact wanted_none rfl | (go_simp; done) | fail) rfl row_coin (HMO.out _ HB.out) (by first | rfl | (go_simp; done) | rfl) HVC.out.len (fun K hK => ?_)
      go_simp
      refine hK _ ?_
      clear hK K
      refine fl_calm rfl (by decide) (by first | exact wanted_none rfl | (go_simp; done) | fail) (fun w_ _ _ => by have c1 := HQC.out; first | (go_simp; rfl) | (go_simp; done) | rfl) (fun K hK => ?_)
      go_simp
      refine hK _ ?_
      clear hK K
      refine fl_calm rfl (by decide) (by first | exact wanted_none rfl | (go_simp; done) | fail) (fun w_ _ _ => by first | (go_simp; rfl) | (go_simp; done) | rfl) (fun K hK => ?_)
      go_simp
      refine hK _ ?_
      clear hK K
      refine fl_calm rfl (by decide) (by first | exact wanted_none rfl | (go_simp; done) | fail) (fun w_ _ _ => by first | (go_simp; rfl) | (go_simp; done) | rfl) (fun K hK => ?_)
      go_simp
      refine hK _ ?_
      clear hK K
      refine fl_calm rfl (by decide) (by first | exact wanted_none rfl | (go_simp; done) | fail) (fun w_ _ _ => by first | (go_simp; rfl) | (go_simp; done) | rfl) (fun K hK => ?_)
      go_simp
      refine hK _ ?_
      clear hK K
      refine fl_loadb rfl (by decide) (by first | exact wanted_none rfl | (go_simp; done) | fail) rfl row_idk HI.out.blk (by first | rfl | (go_simp; done) | rfl) HI.out.len (fun K hK => ?_)
      go_simp
      refine hK _ ?_
      clear hK K
      refine fl_calls rfl (by kernel_rfl) rfl (by first | exact wanted_none rfl | (go_simp; done) | fail) (fun w_ => by first | (go_simp; exact ⟨rfl, rfl⟩) | (go_simp; rfl) | (go_simp; exact ⟨⟨rfl, rfl, rfl⟩, rfl⟩)) (fun w2_ hg_ hL_ => ?_) (fun A9 c9 K hK => ?_)
      · skip
        replace HB := Lib.hid (HB.out.grow' hg_)
        exact (HOF.out w2_ (HC.out.call HB.out))
      go_simp
      refine hK _ ?_
      clear hK K
      refine fl_calm rfl (by decide) (by first | exact wanted_none rfl | (go_simp; done) | fail) (fun w_ _ _ => by first | (go_simp; rfl) | (go_simp; done) | rfl) (fun K hK => ?_)
      go_simp
      refine hK _ ?_
      clear hK K
      refine fl_loadb rfl (by decide) (by first | exact wanted_none rfl | (go_simp; done) | fail) rfl row_idk HI.out.blk (by first | rfl | (go_simp; done) | rfl) HI.out.len (fun K hK => ?_)
      go_simp
      refine hK _ ?_
      clear hK K
      refine fl_calls rfl (by kernel_rfl) rfl (by first | exact wanted_none rfl | (go_simp; done) | fail) (fun w_ => by first | (go_simp; exact ⟨rfl, rfl⟩) | (go_simp; rfl) | (go_simp; exact ⟨⟨rfl, rfl, rfl⟩, rfl⟩)) (fun w2_ hg_ hL_ => ?_) (fun A10 c10 K hK => ?_)
      · skip
        replace HB := Lib.hid (HB.out.grow' hg_)
        exact (HRO.out w2_ (HX.out.call HB.out))
      go_simp
      refine hK _ ?_
      clear hK K
      refine fl_callv rfl (by kernel_rfl) rfl (by first | exact wanted_none rfl | (go_simp; done) | fail) (fun w_ => by first | (go_simp; exact ⟨rfl, rfl⟩) | (go_simp; rfl) | (go_simp; exact ⟨⟨rfl, rfl, rfl⟩, rfl⟩)) (fun w2_ hg_ hL_ => ?_) (fun K hK => ?_)
      · skip
        have HR1 := Lib.hid (flA.get (k := 0) hL_ rfl (by kernel_rfl))
        have HR2 := Lib.hid (flA.get (k := 1) hL_ rfl (by kernel_rfl))
        exact (points_any w2_ HR1.out HR2.out HQ.out)
      go_simp
      refine hK _ ?_
      clear hK K
      refine fl_calm rfl (by decide) (by first | exact wanted_none rfl | (go_simp; done) | fail) (fun w_ _ _ => by first | (go_simp; rfl) | (go_simp; done) | rfl) (fun K hK => ?_)
      go_simp
      refine hK _ ?_
      clear hK K
      refine fl_calm rfl (by decide) (by first | exact wanted_none rfl | (go_simp; done) | fail) (fun w_ _ _ => by first | (go_simp; rfl) | (go_simp; done) | rfl) (fun K hK => ?_)
      go_simp
      refine hK _ ?_
      clear hK K
      refine fl_done ?_
      intro w2_ hg_ hL_
      replace HB := Lib.hid (HB.out.grow' hg_)
      clear hg_ hL_
      try clear w_
      rename World => w_
      go_wp2_with fail
      go_roundw
      case rel => exact ⟨k + 1, by omega, by go_num, HB⟩
      case measure => simp [intOf]; omega
    · obtain rfl : k = n := by omega
      have HTR := Lib.hid (fun w' (h' : RowK w' A k X) => rbytes21_any (c := c) w' h' hn64 HR.out.ixX)
      have HC0 := HC; have HX0 := HX
      clear HC HX
      have HC := Lib.hid (HC0.out.call HB.out); have HX := Lib.hid (HX0.out.call HB.out)
      have HGG := Lib.hid (show g < w_.heap.size ∧ b < w_.heap.size from ⟨HC.out.ltg, HC.out.ltb⟩)
      have HP1 := Lib.hid (fun gp w' (h' : LocksAt w' g b L s) hp (h1 : g < gp) (h2 : b < gp) => kput1_any g b gp X L s w' h' HR.out hp h1 h2)
      have HLO := Lib.hid (bytesK_le (by rw [HXN.out]; exact hn64) HR.out.okX HR.out.ixX)
      obtain ⟨out, hout⟩ : ∃ q, q = bytesK X := ⟨_, rfl⟩
      rw [← hout] at HTR HP1 HLO
      clear hout
      go_wp2_with (first | (with_reducible refine wpl_alloc (o := ⟨some 9, _, _, _, _, _⟩) rfl rfl zero_penC ?_))
      intro w4 hb4 hbw4 hsz4
      obtain ⟨gp, hgp⟩ : ∃ q, q = w_.heap.size := ⟨_, rfl⟩
      rw [← hgp] at hb4 hsz4 HGG ⊢
      have HP := Lib.hid (show PenAt w4 (KR gp 0 0) gp [] from PenAt.new hb4 (fun j hj => by rcases hj with h | h <;> omega))
      have HC4 := Lib.hid (HC.out.call hbw4); have HX4 := Lib.hid (HX.out.call hbw4)
      have HXB := Lib.hid (show Sl w_ gp 98 A k (X.flatMap encAtK) by rw [hgp]; exact HX.out.1)
      have HB4 := Lib.hid (show Below w.heap.size w w4 from HB.out.trans (hbw4.mono HB.out.size))
      have HGP := Lib.hid (show w.heap.size ≤ gp by rw [hgp]; exact HB.out.size)
      have HGW := Lib.hid (show Below gp w_ w4 by rw [hgp]; exact hbw4)
      clear hb4 hbw4 hsz4 HC HX HB hgp HC0 HX0
      go_wp2_with fail
      refine (HP1.out gp w4 HC4.out HP.out HGG.out.1 HGG.out.2).mono ?_
      rintro e w5 ⟨rfl, hp5, hb5⟩
      have HP5 := Lib.hid hp5
      have HB5 := Lib.hid (show Below w.heap.size w w5 from HB4.out.trans (hb5.mono HGP.out))
      have HX5 := Lib.hid (show RowK w5 A k X from ⟨(HXB.out.below (HGW.out.trans hb5)).more (by have := HP.out.lt; have := hb5.size; omega), HX4.out.2⟩)
      clear hp5 hb5 HP HC4 HX4 HB4 HXB HGW HP1
      have HPB := Lib.hid (fun (hl : out.length ≤ 1000000) => pbytes_any gp (KR gp 0 0) out w5 HP5.out hl)
      have hlo := HLO.out
      go_wp2_with fail
      refine (HPB.out (by have := HLO.out; omega)).mono ?_
      rintro e w6 ⟨A6, c6, rfl, ho6, hc6, hb6⟩
      have HO6 := Lib.hid (Sl.of_own ho6)
      have HB6 := Lib.hid (show Below w.heap.size w w6 from HB5.out.grow' hb6)
      have HX6 := Lib.hid (HX5.out.grow hb6)
      clear ho6 hc6 hb6 HP5 HX5 HB5 HPB
      go_wp2_with fail
      refine (HTR.out w6 HX6.out).mono ?_
      rintro e w7 ⟨A7, c7, rfl, hs7, hc7, hl7, hb7⟩
      have HO7 := Lib.hid (show Sl w7 w7.heap.size 1 A6 out.length (out.map B) from (HO6.out.below hb7).more hb7.size)
      have HS7 := Lib.hid hs7
      have HB7 := Lib.hid (show Below w.heap.size w w7 from HB6.out.grow' hb7)
      clear hs7 hc7 hl7 hb7 HX6 HO6 HB6 HTR
      go_wp2_with fail
      refine (bytesq_any (res := true) (by simp) w7 HO7.out HS7.out (by have := HLO.out; omega)).mono ?_
      rintro e w8 ⟨rfl, hb8⟩
      have HB8 := Lib.hid (show Below w.heap.size w w8 from HB7.out.grow' hb8)
      clear hb8
      go_wp2_with fail
      go_ret
      exact ⟨rfl, HB8.out⟩
end Go.Proofs.Ytolbbhbfbpiljaa

/- Arguments opened: arrays of bytes, as the row's reading gives them. -/
namespace Go.Proofs.Ytolbbhbfbpiljaa
open Go.RowKit Go.ChangeShapes Go.WideShapes
set_option linter.unusedVariables false
section
variable {H : Type} {enc : TypeId × Value → H} {P : Program} {w : World} {base : Nat} {spare : Nat → Bool} {held : Bool}

theorem trod_bytes {t e : TypeId} {n : Nat} {fuel : Nat} {cs : List Value} {x : DataW H × List MemPlace} (ht : P.underlying t = some (.array n e)) (he : P.underlying e = some (.int .u8)) (hce : P.cellsOf e = 1) (hct : P.cellsOf t = n)
    (h : DataW.trod enc P w base spare held fuel t cs = some x) : ∃ ds : List UInt8, cs = ds.map B ∧ ds.length = n := by
  obtain ⟨xs, m, rfl, rfl, hl, hxl, hi⟩ := DataW.trod_array ht h
  rw [hct] at hl
  refine ⟨cs.map (fun v => match v with | .int _ z => UInt8.ofNat z.toNat | _ => 0), ?_, by rw [List.length_map, hl]⟩
  apply List.ext_getElem?
  intro i
  by_cases hin : i < n
  · have h1 := hi i hin
    rw [hce, Nat.mul_one, List.getElem?_eq_getElem (by omega)] at h1
    obtain ⟨z, h2, _, h3⟩ := DataW.trod_int he h1
    have h4 : cs[i]? = some (.int .u8 z) := by
      have := congrArg List.head? h2
      rw [List.take_one] at this
      simpa using this
    have hz := bounds_u8 h3
    rw [List.getElem?_map, List.getElem?_map, h4]
    simp only [Option.map_some, B, b8]
    congr 2
    rw [UInt8.toNat_ofNat']
    omega
  · rw [List.getElem?_eq_none (by omega), List.getElem?_eq_none (by simp; omega)]
end


theorem open_arr32 {H : Type} {enc : TypeId × Value → H} {P : Program} {w : World} {r : Reach} {b0 base : Nat} {spare : Nat → Bool} {held : Bool} {t e : TypeId} {v : Value} {d : DataW H} {ps : List MemPlace}
    (ht : P.underlying t = some (.array 32 e)) (he : P.underlying e = some (.int .u8)) (hce : P.cellsOf e = 1) (hct : P.cellsOf t = 32) (hval : Value.okWide P w r b0 t v) (h : DataW.Trod enc P w base spare held t v d ps) :
    ∃ ds : List UInt8, v = .agg (ds.map B).toArray ∧ ds.length = 32 := by
  simp only [Value.okWide, ht] at hval
  obtain ⟨cs, rfl, hsz, _⟩ := hval
  obtain ⟨fuel, hf⟩ := h
  obtain ⟨ds, h1, h2⟩ := trod_bytes ht he hce hct hf
  refine ⟨ds, ?_, h2⟩
  simp only [Value.cells] at h1
  rw [← h1]
end Go.Proofs.Ytolbbhbfbpiljaa

/- Arguments opened: slices, of whatever elements; slices of bytes, of slices of bytes, of digests. -/
namespace Go.Proofs.Ytolbbhbfbpiljaa
open Go.RowKit Go.ChangeShapes Go.WideShapes Go.Deep
set_option linter.unusedVariables false
section
variable {H : Type} {enc : TypeId × Value → H} {P : Program} {w : World} {r : Reach} {b0 base : Nat} {spare : Nat → Bool} {held : Bool}

theorem flat_len {α : Type} {f : α → List Value} {sz : Nat} : ∀ {l : List α}, (∀ x ∈ l, (f x).length = sz) → (l.flatMap f).length = l.length * sz
  | [], _ => by simp
  | x :: l, h => by
    rw [List.flatMap_cons, List.length_append, h x (by simp), flat_len (l := l) (fun y hy => h y (by simp [hy])), List.length_cons, Nat.succ_mul, Nat.add_comm]
theorem flat_at {α : Type} {f : α → List Value} {sz : Nat} : ∀ {l : List α}, (∀ x ∈ l, (f x).length = sz) → 0 < sz → ∀ {j : Nat} {u : Value}, (l.flatMap f)[j]? = some u → ∃ x, l[j / sz]? = some x ∧ (f x)[j % sz]? = some u
  | [], _, _, j, u, hu => by simp at hu
  | x :: l, h, h0, j, u, hu => by
    rw [List.flatMap_cons] at hu
    have hx := h x (by simp)
    by_cases hj : j < sz
    · rw [List.getElem?_append_left (by omega)] at hu
      refine ⟨x, by rw [Nat.div_eq_of_lt hj]; rfl, by rw [Nat.mod_eq_of_lt hj]; exact hu⟩
    · rw [List.getElem?_append_right (by omega), hx] at hu
      obtain ⟨y, h1, h2⟩ := flat_at (l := l) (fun y hy => h y (by simp [hy])) h0 hu
      have e1 : j / sz = (j - sz) / sz + 1 := by rw [← Nat.div_eq_sub_div h0 (by omega)]
      have e2 : j % sz = (j - sz) % sz := by rw [Nat.mod_eq_sub_mod (by omega)]
      exact ⟨y, by rw [e1, List.getElem?_cons_succ]; exact h1, by rw [e2]; exact h2⟩

/-- A slice that came in, of elements whose cells are 'f x'. -/
theorem open_list0 {α : Type} [Inhabited α] (f : α → List Value) (ok : α → Prop) {t e : TypeId} {fuel : Nat} {cs : List Value} {y : DataW H × List MemPlace} {sz : Nat} (ht : P.underlying t = some (.slice e)) (hce : P.cellsOf e = sz) (hsz : 0 < sz)
    (helem : ∀ fuel cs y, cs.length = sz → DataW.trod enc P w base spare held fuel e cs = some y → ∃ x, cs = f x ∧ ok x)
    (hf : DataW.trod enc P w base spare held fuel t cs = some y) :
    ∃ A n c, ∃ l : List α, cs = [.slice A n c] ∧ l.length = n ∧ n ≤ c ∧ c ≤ maxLen ∧ Sl w w.heap.size sz A n (l.flatMap f) ∧ (∀ x ∈ l, ok x) ∧ (∀ x ∈ l, (f x).length = sz) := by
  rcases open_slice ht hf with ⟨hcs, _⟩ | ⟨a, n, c, m, k, D, Pl, hcs, _, hl, hm, hmm, _, hx⟩
  · subst hcs
    exact ⟨none, 0, 0, [], rfl, rfl, Nat.le_refl _, Nat.zero_le _, ⟨by simp, fun h => absurd h (by omega)⟩, by simp, by simp⟩
  · subst hcs
    have hle : n ≤ m := by rw [hmm]; split <;> omega
    rw [hce] at hx
    obtain ⟨X, hX⟩ := choose_lt (n := n) (p := fun i (x : α) => w.cells? base (a.add (i * sz)) sz = some (f x) ∧ (f x).length = sz ∧ ok x) (fun i hi => by
      obtain ⟨cs', h1, h2⟩ := hx i (by omega)
      obtain ⟨_, hlen, _⟩ := World.cells?_some h1
      obtain ⟨x, e, hok⟩ := helem _ _ _ hlen h2
      exact ⟨x, by rw [← e]; exact h1, by rw [← e]; exact hlen, hok⟩)
    have hlen : ∀ x ∈ (List.range n).map X, (f x).length = sz := by
      intro x hx
      obtain ⟨i, hi, rfl⟩ := List.mem_map.1 hx
      exact (hX i (by simpa using hi)).2.1
    refine ⟨some a, n, c, (List.range n).map X, rfl, by simp, hl, hm, ⟨by rw [flat_len hlen]; simp, fun hn => ?_⟩, ?_, hlen⟩
    · obtain ⟨b, off, spot⟩ := a
      obtain ⟨_, _, h0⟩ := World.cells?_some (hX 0 hn).1
      have h00 := h0 0 hsz
      have hc0 : ∃ u, w.cell? ((Addr.add ⟨b, off, spot⟩ (0 * sz)).add 0) = some u := ⟨_, by rw [h00, List.getElem?_eq_getElem (by rw [(hX 0 hn).2.1]; exact hsz)]⟩
      obtain ⟨u0, hu0⟩ := hc0
      have hspot : spot = none := by simpa [Addr.add] using World.cell?_spot hu0
      subst hspot
      refine ⟨b, off, rfl, by have := World.block_lt_of_cell? w _ hu0; simpa [Addr.add] using this, fun j u hu => ?_⟩
      obtain ⟨x, h1, h2⟩ := flat_at hlen hsz hu
      rw [List.getElem?_map] at h1
      obtain ⟨i, h3, rfl⟩ := Option.map_eq_some_iff.1 h1
      have hi : j / sz = i ∧ i < n := by
        rcases Nat.lt_or_ge (j / sz) n with hl | hl
        · rw [List.getElem?_range hl] at h3; cases h3; exact ⟨rfl, hl⟩
        · rw [List.getElem?_eq_none (by simpa using hl)] at h3; cases h3
      obtain ⟨_, _, hc⟩ := World.cells?_some (hX i hi.2).1
      have := hc (j % sz) (Nat.mod_lt _ hsz)
      rw [h2, Addr.add_lit, Addr.add_lit] at this
      rw [← this, ← hi.1]
      have := Nat.div_add_mod j sz
      have e : off + j = off + j / sz * sz + j % sz := by rw [Nat.mul_comm] at this; omega
      rw [e]
    · intro x hx
      obtain ⟨i, hi, rfl⟩ := List.mem_map.1 hx
      exact (hX i (by simpa using hi)).2.2

theorem open_list {α : Type} [Inhabited α] (f : α → List Value) (ok : α → Prop) {t e : TypeId} {v : Value} {d : DataW H} {ps : List MemPlace} {sz : Nat} (ht : P.underlying t = some (.slice e)) (hce : P.cellsOf e = sz) (hsz : 0 < sz)
    (helem : ∀ fuel cs y, cs.length = sz → DataW.trod enc P w base spare held fuel e cs = some y → ∃ x, cs = f x ∧ ok x)
    (hval : Value.okWide P w r b0 t v) (h : DataW.Trod enc P w base spare held t v d ps) :
    ∃ A n c, ∃ l : List α, v = .slice A n c ∧ l.length = n ∧ n ≤ c ∧ c ≤ maxLen ∧ Sl w w.heap.size sz A n (l.flatMap f) ∧ (∀ x ∈ l, ok x) ∧ (∀ x ∈ l, (f x).length = sz) := by
  obtain ⟨A, n, c, rfl⟩ := okWide_slice ht hval
  obtain ⟨fuel, hf⟩ := h
  obtain ⟨A', n', c', l, h1, hr⟩ := open_list0 f ok ht hce hsz helem hf
  have h1 : A = A' ∧ n = n' ∧ c = c' := by simpa [Value.cells] using h1
  obtain ⟨rfl, rfl, rfl⟩ := h1
  exact ⟨A, n, c, l, rfl, hr⟩

theorem flat_one {α : Type} (g : α → Value) (l : List α) : l.flatMap (fun x => [g x]) = l.map g := by
  induction l with
  | nil => rfl
  | cons x l ih => simp [ih]

theorem trod_u8 {e : TypeId} (he : P.underlying e = some (.int .u8)) {fuel : Nat} {cs : List Value} {y : DataW H × List MemPlace} (h : DataW.trod enc P w base spare held fuel e cs = some y) : ∃ x : UInt8, cs = [B x] ∧ True := by
  obtain ⟨z, h1, _, h2⟩ := DataW.trod_int he h
  have hz := bounds_u8 h2
  refine ⟨UInt8.ofNat z.toNat, ?_, trivial⟩
  rw [h1]
  simp only [B, b8]
  congr 2
  rw [UInt8.toNat_ofNat']; omega
theorem open_u8s0 {t e : TypeId} {fuel : Nat} {cs : List Value} {y : DataW H × List MemPlace} (ht : P.underlying t = some (.slice e)) (he : P.underlying e = some (.int .u8)) (hce : P.cellsOf e = 1) (h : DataW.trod enc P w base spare held fuel t cs = some y) :
    ∃ A n c, ∃ bs : List UInt8, cs = [.slice A n c] ∧ Sl w w.heap.size 1 A n (bs.map B) ∧ n ≤ c ∧ c ≤ maxLen ∧ bs.length = n := by
  obtain ⟨A, n, c, l, h1, h2, h3, h4, h5, _⟩ := open_list0 (fun x : UInt8 => [B x]) (fun _ => True) ht hce (by omega) (fun fuel cs y _ h => trod_u8 he h) h
  exact ⟨A, n, c, l, h1, by rw [← flat_one]; exact h5, h3, h4, h2⟩
theorem open_u8s {t e : TypeId} {v : Value} {d : DataW H} {ps : List MemPlace} (ht : P.underlying t = some (.slice e)) (he : P.underlying e = some (.int .u8)) (hce : P.cellsOf e = 1) (hval : Value.okWide P w r b0 t v) (h : DataW.Trod enc P w base spare held t v d ps) :
    ∃ A n c, ∃ bs : List UInt8, v = .slice A n c ∧ Sl w w.heap.size 1 A n (bs.map B) ∧ n ≤ c ∧ c ≤ maxLen := by
  obtain ⟨A, n, c, l, h1, h2, h3, h4, h5, _⟩ := open_list (fun x : UInt8 => [B x]) (fun _ => True) ht hce (by omega) (fun fuel cs y _ h => trod_u8 he h) hval h
  exact ⟨A, n, c, l, h1, by rw [← flat_one]; exact h5, h3, h4⟩
end
end Go.Proofs.Ytolbbhbfbpiljaa

/- Arguments opened: outputs, coins, lists of acts of coins. -/
namespace Go.Proofs.Ytolbbhbfbpiljaa
open Go.RowKit Go.ChangeShapes Go.WideShapes
set_option linter.unusedVariables false
set_option maxRecDepth 100000
theorem gotA {α : Type} {o : Option α} {xs : List α} {i : Nat} (h : o = xs[i]?) (hi : i < xs.length) : ∃ y, o = some y := ⟨_, h.trans (List.getElem?_eq_getElem hi)⟩
theorem cutA {xs : List Value} {o n : Nat} {l rest : List Value} (h : (xs.drop o).take n = l) (hr : xs.drop (o + n) = rest) : xs.drop o = l ++ rest := by
  rw [← List.take_append_drop n (xs.drop o), h, List.drop_drop, hr]
theorem fm_atA {α : Type} (f : α → List Value) (sz : Nat) : ∀ (l : List α) (k j : Nat) (x : α) (u : Value), (∀ y ∈ l, (f y).length = sz) → l[k]? = some x → (f x)[j]? = some u → (l.flatMap f)[k * sz + j]? = some u
  | [], k, j, x, u, _, hk, _ => by simp at hk
  | y :: l, 0, j, x, u, hl, hk, hu => by
    simp at hk; subst hk
    rw [List.flatMap_cons, Nat.zero_mul, Nat.zero_add, List.getElem?_append_left (List.getElem?_eq_some_iff.1 hu).1]; exact hu
  | y :: l, k + 1, j, x, u, hl, hk, hu => by
    have h1 := hl y (List.mem_cons_self ..)
    rw [List.flatMap_cons, List.getElem?_append_right (by rw [h1, Nat.add_mul]; omega), h1, show (k + 1) * sz + j - sz = k * sz + j by rw [Nat.add_mul]; omega]
    exact fm_atA f sz l k j x u (fun z hz => hl z (List.mem_cons_of_mem _ hz)) (by simpa using hk) hu
section
variable {H : Type} {enc : TypeId × Value → H} {w : World} {r : Reach} {b0 base : Nat} {spare : Nat → Bool} {held : Bool}
theorem trod_ptk {fuel : Nat} {cs : List Value} {y : DataW H × List MemPlace} (hl0 : cs.length = 33) (hf : DataW.trod enc Try.prog w base spare held fuel 52 cs = some y) : ∃ p : PtK, cs = ptV p ∧ PtOK p := by
  obtain ⟨xs, n, _, _, hl, hxs, hg⟩ := DataW.trod_struct Try.underlying52 hf
  replace hg := fun i f h => hg i f h
  have hxs5 : xs.length = 2 := hxs
  obtain ⟨y0, h0⟩ := gotA (hg 0 _ rfl) (by omega)
  obtain ⟨y1, h1⟩ := gotA (hg 1 _ rfl) (by omega)
  replace h0 : DataW.trod enc Try.prog w base spare held n 29 ((cs.drop 0).take (Try.prog.cellsOf 29)) = some y0 := h0
  replace h1 : DataW.trod enc Try.prog w base spare held n 3 ((cs.drop 32).take (Try.prog.cellsOf 3)) = some y1 := h1
  rw [cells_id] at h0
  rw [cells_int] at h1
  obtain ⟨d0, e0, l0⟩ := trod_bytes Try.underlying29 Try.underlying5 cells_u8 cells_id h0
  obtain ⟨z1, e1, _, w1⟩ := DataW.trod_int Try.underlying3 h1
  refine ⟨(d0, z1), ?_, l0, w1⟩
  have a2 : cs.drop 33 = [] := List.drop_of_length_le (by omega)
  have a1 := cutA e1 a2
  have a0 := cutA e0 a1
  rw [List.drop_zero] at a0
  rw [a0]; simp [ptV]
theorem trod_coinv {fuel : Nat} {cs : List Value} {y : DataW H × List MemPlace} (hl0 : cs.length = 33) (hf : DataW.trod enc Try.prog w base spare held fuel 54 cs = some y) : ∃ c : CoinV, cs = coinV c ∧ CoinOK c := by
  obtain ⟨xs, n, _, _, hl, hxs, hg⟩ := DataW.trod_struct Try.underlying54 hf
  replace hg := fun i f h => hg i f h
  have hxs5 : xs.length = 2 := hxs
  obtain ⟨y0, h0⟩ := gotA (hg 0 _ rfl) (by omega)
  obtain ⟨y1, h1⟩ := gotA (hg 1 _ rfl) (by omega)
  replace h0 : DataW.trod enc Try.prog w base spare held n 29 ((cs.drop 0).take (Try.prog.cellsOf 29)) = some y0 := h0
  replace h1 : DataW.trod enc Try.prog w base spare held n 30 ((cs.drop 32).take (Try.prog.cellsOf 30)) = some y1 := h1
  rw [cells_id] at h0
  rw [cells_u64] at h1
  obtain ⟨d0, e0, l0⟩ := trod_bytes Try.underlying29 Try.underlying5 cells_u8 cells_id h0
  obtain ⟨z1, e1, _, w1⟩ := DataW.trod_int Try.underlying30 h1
  refine ⟨(d0, z1), ?_, l0, by simpa [Lit.wf, IntKind.min, IntKind.max, IntKind.signed, IntKind.bits] using w1⟩
  have a2 : cs.drop 33 = [] := List.drop_of_length_le (by omega)
  have a1 := cutA e1 a2
  have a0 := cutA e0 a1
  rw [List.drop_zero] at a0
  rw [a0]; simp [coinV]
end
abbrev ActC := Int × PtK × CoinV
def actC (a : ActC) : List Value := .int .i64 a.1 :: (ptV a.2.1 ++ coinV a.2.2)
def ActCOK (a : ActC) : Prop := PtOK a.2.1 ∧ CoinOK a.2.2
theorem actC_len {a : ActC} (h : ActCOK a) : (actC a).length = 67 := by unfold actC; rw [List.length_cons, List.length_append, ptV_length h.1.1, coinV_length h.2]
theorem cells_actc : Try.prog.cellsOf 70 = 67 := by kernel_rfl
theorem cells_coina : Try.prog.cellsOf 54 = 33 := by kernel_rfl
theorem row_actc : RowT Try.prog 70 67 := ⟨_, Try.underlying70, by kernel_rfl, by kernel_rfl⟩
def zAct : ActC := (0, (List.replicate 32 0, 0), noCoin)
theorem zero_actc : (Try.prog.info? 70).map (·.zero) = some (some (.agg (actC zAct).toArray)) := by kernel_rfl
theorem zAct_ok : ActCOK zAct := ⟨⟨by simp [zAct], by decide⟩, noCoin_ok⟩
theorem len_actc : (actC zAct).length = 67 := actC_len zAct_ok
instance : Inhabited ActC := ⟨zAct⟩
def ActsC (w : World) (A : Option Addr) (n : Nat) (l : List ActC) : Prop := l.length = n ∧ Sl w w.heap.size 67 A n (l.flatMap actC) ∧ ∀ a ∈ l, ActCOK a
theorem ActsC.grow {w w' : World} {A : Option Addr} {n : Nat} {l : List ActC} (h : ActsC w A n l) (k : Below w.heap.size w w') : ActsC w' A n l := ⟨h.1, (h.2.1.below k).more k.size, h.2.2⟩
theorem ActsC.at_ {w : World} {A : Option Addr} {n : Nat} {l : List ActC} (h : ActsC w A n l) {k : Nat} (hk : k < n) : ∃ b off a, A = some ⟨b, off, none⟩ ∧ l[k]? = some a ∧ (∀ j u, (actC a)[j]? = some u → w.cell? ⟨b, off + k * 67 + j, none⟩ = some u) ∧ ActCOK a := by
  obtain ⟨b, off, e, hb, hc⟩ := h.2.1.2 (by omega)
  have hl : k < l.length := by have := h.1; omega
  refine ⟨b, off, l[k], e, List.getElem?_eq_getElem hl, fun j u hu => ?_, h.2.2 _ (List.getElem_mem hl)⟩
  rw [Nat.add_assoc]
  exact hc _ u (fm_atA actC 67 l k j _ u (fun y hy => actC_len (h.2.2 y hy)) (List.getElem?_eq_getElem hl) hu)
theorem actC_pt {a : ActC} {j : Nat} {u : Value} (hu : (ptV a.2.1)[j]? = some u) : (actC a)[1 + j]? = some u := by
  unfold actC; rw [Nat.add_comm, List.getElem?_cons_succ, List.getElem?_append_left (List.getElem?_eq_some_iff.1 hu).1]; exact hu
theorem actC_coin {a : ActC} (h : ActCOK a) {j : Nat} {u : Value} (hu : (coinV a.2.2)[j]? = some u) : (actC a)[34 + j]? = some u := by
  have hl := ptV_length h.1.1
  unfold actC; rw [show 34 + j = (33 + j) + 1 by omega, List.getElem?_cons_succ, List.getElem?_append_right (by omega), hl, show 33 + j - 33 = j by omega]; exact hu
section
variable {H : Type} {enc : TypeId × Value → H} {w : World} {r : Reach} {b0 base : Nat} {spare : Nat → Bool} {held : Bool}
theorem trod_actc {fuel : Nat} {cs : List Value} {y : DataW H × List MemPlace} (hl0 : cs.length = 67) (hf : DataW.trod enc Try.prog w base spare held fuel 70 cs = some y) : ∃ a : ActC, cs = actC a ∧ ActCOK a := by
  obtain ⟨xs, n, _, _, hl, hxs, hg⟩ := DataW.trod_struct Try.underlying70 hf
  replace hg := fun i f h => hg i f h
  have hxs5 : xs.length = 3 := hxs
  obtain ⟨y0, h0⟩ := gotA (hg 0 _ rfl) (by omega)
  obtain ⟨y1, h1⟩ := gotA (hg 1 _ rfl) (by omega)
  obtain ⟨y2, h2⟩ := gotA (hg 2 _ rfl) (by omega)
  replace h0 : DataW.trod enc Try.prog w base spare held n 3 ((cs.drop 0).take (Try.prog.cellsOf 3)) = some y0 := h0
  replace h1 : DataW.trod enc Try.prog w base spare held n 52 ((cs.drop 1).take (Try.prog.cellsOf 52)) = some y1 := h1
  replace h2 : DataW.trod enc Try.prog w base spare held n 54 ((cs.drop 34).take (Try.prog.cellsOf 54)) = some y2 := h2
  rw [cells_int] at h0
  rw [cells_point] at h1
  rw [cells_coina] at h2
  obtain ⟨z0, e0, _, w0⟩ := DataW.trod_int Try.underlying3 h0
  obtain ⟨p, e1, hp⟩ := trod_ptk (by rw [List.length_take, List.length_drop, hl0]; rfl) h1
  obtain ⟨c, e2, hc⟩ := trod_coinv (by rw [List.length_take, List.length_drop, hl0]; rfl) h2
  refine ⟨(z0, p, c), ?_, hp, hc⟩
  have a3 : cs.drop 67 = [] := List.drop_of_length_le (by omega)
  have a2 := cutA e2 a3
  have a1 := cutA e1 a2
  have a0 := cutA e0 a1
  rw [List.drop_zero] at a0
  rw [a0]; simp [actC]
theorem open_actc {v : Value} {d : DataW H} {ps : List MemPlace} (hval : Value.okWide Try.prog w r b0 65 v) (h : DataW.Trod enc Try.prog w base spare held 65 v d ps) :
    ∃ A n c, ∃ l : List ActC, v = .slice A n c ∧ ActsC w A n l ∧ n ≤ 9223372036854775807 := by
  obtain ⟨A, n, c, l, h1, h2, h3, h4, h5, h6, _⟩ := open_list actC ActCOK Try.underlying65 cells_actc (show 0 < 67 by omega) (fun fuel cs y hl h => trod_actc hl h) hval h
  exact ⟨A, n, c, l, h1, ⟨h2, h5, h6⟩, by unfold maxLen at h4; omega⟩
end
abbrev ActK := Int × PtK × List UInt8 × CoinV
def actK (a : ActK) : List Value := .int .i64 a.1 :: (ptV a.2.1 ++ (a.2.2.1.map B ++ coinV a.2.2.2))
def ActKOK (a : ActK) : Prop := PtOK a.2.1 ∧ a.2.2.1.length = 32 ∧ CoinOK a.2.2.2
theorem actK_len {a : ActK} (h : ActKOK a) : (actK a).length = 99 := by unfold actK; rw [List.length_cons, List.length_append, List.length_append, ptV_length h.1.1, List.length_map, h.2.1, coinV_length h.2.2]
theorem cells_actk : Try.prog.cellsOf 83 = 99 := by kernel_rfl
theorem cells_coink : Try.prog.cellsOf 54 = 33 := by kernel_rfl
theorem row_actk : RowT Try.prog 83 99 := ⟨_, Try.underlying83, by kernel_rfl, by kernel_rfl⟩
def zActK : ActK := (0, (List.replicate 32 0, 0), List.replicate 32 0, noCoin)
theorem zero_actk : (Try.prog.info? 83).map (·.zero) = some (some (.agg (actK zActK).toArray)) := by kernel_rfl
theorem zActK_ok : ActKOK zActK := ⟨⟨by simp [zActK], by decide⟩, by simp [zActK], noCoin_ok⟩
theorem len_actk : (actK zActK).length = 99 := actK_len zActK_ok
instance : Inhabited ActK := ⟨zActK⟩
def ActsK (w : World) (A : Option Addr) (n : Nat) (l : List ActK) : Prop := l.length = n ∧ Sl w w.heap.size 99 A n (l.flatMap actK) ∧ ∀ a ∈ l, ActKOK a
theorem ActsK.grow {w w' : World} {A : Option Addr} {n : Nat} {l : List ActK} (h : ActsK w A n l) (k : Below w.heap.size w w') : ActsK w' A n l := ⟨h.1, (h.2.1.below k).more k.size, h.2.2⟩
theorem ActsK.at_ {w : World} {A : Option Addr} {n : Nat} {l : List ActK} (h : ActsK w A n l) {k : Nat} (hk : k < n) : ∃ b off a, A = some ⟨b, off, none⟩ ∧ l[k]? = some a ∧ (∀ j u, (actK a)[j]? = some u → w.cell? ⟨b, off + k * 99 + j, none⟩ = some u) ∧ ActKOK a := by
  obtain ⟨b, off, e, hb, hc⟩ := h.2.1.2 (by omega)
  have hl : k < l.length := by have := h.1; omega
  refine ⟨b, off, l[k], e, List.getElem?_eq_getElem hl, fun j u hu => ?_, h.2.2 _ (List.getElem_mem hl)⟩
  rw [Nat.add_assoc]
  exact hc _ u (fm_atA actK 99 l k j _ u (fun y hy => actK_len (h.2.2 y hy)) (List.getElem?_eq_getElem hl) hu)
theorem actK_pt {a : ActK} {j : Nat} {u : Value} (hu : (ptV a.2.1)[j]? = some u) : (actK a)[1 + j]? = some u := by
  unfold actK; rw [Nat.add_comm, List.getElem?_cons_succ, List.getElem?_append_left (List.getElem?_eq_some_iff.1 hu).1]; exact hu
theorem actK_id {a : ActK} (h : ActKOK a) {j : Nat} {u : Value} (hu : (a.2.2.1.map B)[j]? = some u) : (actK a)[34 + j]? = some u := by
  have hl := ptV_length h.1.1
  unfold actK; rw [show 34 + j = (33 + j) + 1 by omega, List.getElem?_cons_succ, List.getElem?_append_right (by omega), hl, show 33 + j - 33 = j by omega, List.getElem?_append_left (List.getElem?_eq_some_iff.1 hu).1]; exact hu
theorem actK_coin {a : ActK} (h : ActKOK a) {j : Nat} {u : Value} (hu : (coinV a.2.2.2)[j]? = some u) : (actK a)[66 + j]? = some u := by
  have hl := ptV_length h.1.1
  have h3 : (a.2.2.1.map B).length = 32 := by rw [List.length_map, h.2.1]
  unfold actK; rw [show 66 + j = (65 + j) + 1 by omega, List.getElem?_cons_succ, List.getElem?_append_right (by omega), hl, List.getElem?_append_right (by omega), h3, show 65 + j - 33 - 32 = j by omega]; exact hu
section
variable {H : Type} {enc : TypeId × Value → H} {w : World} {r : Reach} {b0 base : Nat} {spare : Nat → Bool} {held : Bool}
theorem trod_actk {fuel : Nat} {cs : List Value} {y : DataW H × List MemPlace} (hl0 : cs.length = 99) (hf : DataW.trod enc Try.prog w base spare held fuel 83 cs = some y) : ∃ a : ActK, cs = actK a ∧ ActKOK a := by
  obtain ⟨xs, n, _, _, hl, hxs, hg⟩ := DataW.trod_struct Try.underlying83 hf
  replace hg := fun i f h => hg i f h
  have hxs5 : xs.length = 4 := hxs
  obtain ⟨y0, h0⟩ := gotA (hg 0 _ rfl) (by omega)
  obtain ⟨y1, h1⟩ := gotA (hg 1 _ rfl) (by omega)
  obtain ⟨y2, h2⟩ := gotA (hg 2 _ rfl) (by omega)
  obtain ⟨y3, h3⟩ := gotA (hg 3 _ rfl) (by omega)
  replace h0 : DataW.trod enc Try.prog w base spare held n 3 ((cs.drop 0).take (Try.prog.cellsOf 3)) = some y0 := h0
  replace h1 : DataW.trod enc Try.prog w base spare held n 52 ((cs.drop 1).take (Try.prog.cellsOf 52)) = some y1 := h1
  replace h2 : DataW.trod enc Try.prog w base spare held n 29 ((cs.drop 34).take (Try.prog.cellsOf 29)) = some y2 := h2
  replace h3 : DataW.trod enc Try.prog w base spare held n 54 ((cs.drop 66).take (Try.prog.cellsOf 54)) = some y3 := h3
  rw [cells_int] at h0
  rw [cells_point] at h1
  rw [cells_id] at h2
  rw [cells_coink] at h3
  obtain ⟨z0, e0, _, w0⟩ := DataW.trod_int Try.underlying3 h0
  obtain ⟨p, e1, hp⟩ := trod_ptk (by rw [List.length_take, List.length_drop, hl0]; rfl) h1
  obtain ⟨d2, e2, l2⟩ := trod_bytes Try.underlying29 Try.underlying5 cells_u8 cells_id h2
  obtain ⟨c, e3, hc⟩ := trod_coinv (by rw [List.length_take, List.length_drop, hl0]; rfl) h3
  refine ⟨(z0, p, d2, c), ?_, hp, l2, hc⟩
  have a4 : cs.drop 99 = [] := List.drop_of_length_le (by omega)
  have a3 := cutA e3 a4
  have a2 := cutA e2 a3
  have a1 := cutA e1 a2
  have a0 := cutA e0 a1
  rw [List.drop_zero] at a0
  rw [a0]; simp [actK]
theorem open_actk {v : Value} {d : DataW H} {ps : List MemPlace} (hval : Value.okWide Try.prog w r b0 80 v) (h : DataW.Trod enc Try.prog w base spare held 80 v d ps) :
    ∃ A n c, ∃ l : List ActK, v = .slice A n c ∧ ActsK w A n l ∧ n ≤ 9223372036854775807 := by
  obtain ⟨A, n, c, l, h1, h2, h3, h4, h5, h6, _⟩ := open_list actK ActKOK Try.underlying80 cells_actk (show 0 < 99 by omega) (fun fuel cs y hl h => trod_actk hl h) hval h
  exact ⟨A, n, c, l, h1, ⟨h2, h5, h6⟩, by unfold maxLen at h4; omega⟩
end
end Go.Proofs.Ytolbbhbfbpiljaa

/- maps.Clone at coins, locks, marks: as the kit's AnyW.maps_Clone. -/
namespace Go.Proofs.Ytolbbhbfbpiljaa
open Go.RowKit Go.Maps Go.Shelf
set_option linter.unusedVariables false
set_option maxRecDepth 100000 in
set_option maxHeartbeats 2000000 in
theorem cclone_any (b : Nat) (es : Array MapEntry) (clock : Nat) (w : World) (hb : w.heap[b]? = some (.map es clock)) :
    Calls Try.prog 62 #[.map (some b)] w fun e w' => e = .returned (.map (some w.heap.size)) ∧ w' = w.alloc (.map es clock) := by
  have hq := fun w => run_eql_map_nil_sl (P := Try.prog) w 130 _ _ (some b) Try.underlying130
  go_enter Try.func62, Try.ntmps62
  go_wp2
  rw [run_callFunc_extern Try.func93 (by kernel_rfl) (by kernel_rfl) (by kernel_rfl) (e := Extern.MapsClone.clone) (by kernel_rfl), run_maps_clone_sl w 130 hb]
  simp only [Result.andThen]
  rw [Oper.upon_value]
  go_wp2
  rw [run_typeAssert_map_sl _ 130 20 _ _ _ Try.underlying130]
  simp only [Result.andThen]
  rw [Oper.upon_value]
  go_wp2
  go_ret
  exact ⟨rfl, rfl⟩
set_option maxRecDepth 100000 in
set_option maxHeartbeats 2000000 in
theorem kclone_any (b : Nat) (es : Array MapEntry) (clock : Nat) (w : World) (hb : w.heap[b]? = some (.map es clock)) :
    Calls Try.prog 69 #[.map (some b)] w fun e w' => e = .returned (.map (some w.heap.size)) ∧ w' = w.alloc (.map es clock) := by
  have hq := fun w => run_eql_map_nil_sl (P := Try.prog) w 118 _ _ (some b) Try.underlying118
  go_enter Try.func69, Try.ntmps69
  go_wp2
  rw [run_callFunc_extern Try.func93 (by kernel_rfl) (by kernel_rfl) (by kernel_rfl) (e := Extern.MapsClone.clone) (by kernel_rfl), run_maps_clone_sl w 118 hb]
  simp only [Result.andThen]
  rw [Oper.upon_value]
  go_wp2
  rw [run_typeAssert_map_sl _ 118 20 _ _ _ Try.underlying118]
  simp only [Result.andThen]
  rw [Oper.upon_value]
  go_wp2
  go_ret
  exact ⟨rfl, rfl⟩
set_option maxRecDepth 100000 in
set_option maxHeartbeats 2000000 in
theorem mclonem_any (b : Nat) (es : Array MapEntry) (clock : Nat) (w : World) (hb : w.heap[b]? = some (.map es clock)) :
    Calls Try.prog 75 #[.map (some b)] w fun e w' => e = .returned (.map (some w.heap.size)) ∧ w' = w.alloc (.map es clock) := by
  have hq := fun w => run_eql_map_nil_sl (P := Try.prog) w 108 _ _ (some b) Try.underlying108
  go_enter Try.func75, Try.ntmps75
  go_wp2
  rw [run_callFunc_extern Try.func93 (by kernel_rfl) (by kernel_rfl) (by kernel_rfl) (e := Extern.MapsClone.clone) (by kernel_rfl), run_maps_clone_sl w 108 hb]
  simp only [Result.andThen]
  rw [Oper.upon_value]
  go_wp2
  rw [run_typeAssert_map_sl _ 108 20 _ _ _ Try.underlying108]
  simp only [Result.andThen]
  rw [Oper.upon_value]
  go_wp2
  go_ret
  exact ⟨rfl, rfl⟩
end Go.Proofs.Ytolbbhbfbpiljaa

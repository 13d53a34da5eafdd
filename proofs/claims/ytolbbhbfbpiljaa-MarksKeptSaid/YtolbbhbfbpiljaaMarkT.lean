/- The document's Same: a mark without a path is the same as itself. -/
import Derived.Test.YtolbbhbfbpiljaaMarkS
namespace Go.Proofs.Ytolbbhbfbpiljaa
open Go.RowKit
set_option linter.unusedVariables false
def cV (m : Mrk) : List Value := entV m.e ++ (.slice none 0 0 :: (hdrV m.h ++ m.tag.map B))
theorem markV_cV (m : Mrk) : markV m = cV m ++ [.int .i64 m.expiry] := by unfold markV cV; simp
theorem cV_len {m : Mrk} (h : m.ok) : (cV m).length = 137 := by
  have h1 := markV_length h
  rw [markV_cV, List.length_append] at h1
  simpa using h1
theorem cV_mark {m : Mrk} (h : m.ok) {j : Nat} {u : Value} (hu : (cV m)[j]? = some u) : (markV m)[0 + j]? = some u := by
  rw [markV_cV, Nat.zero_add, List.getElem?_append_left (List.getElem?_eq_some_iff.1 hu).1]; exact hu
theorem cV_ent {m : Mrk} (h : m.ok) {j : Nat} {u : Value} (hu : (entV m.e)[j]? = some u) : (cV m)[0 + j]? = some u := by
  unfold cV; rw [Nat.zero_add, List.getElem?_append_left (List.getElem?_eq_some_iff.1 hu).1]; exact hu
theorem cV_path {m : Mrk} (h : m.ok) : (cV m)[37]? = some (.slice none 0 0) := by
  have hl := entV_length h.1
  unfold cV; rw [List.getElem?_append_right (by omega), hl]; rfl
theorem cV_hdr {m : Mrk} (h : m.ok) {j : Nat} {u : Value} (hu : (hdrV m.h)[j]? = some u) : (cV m)[38 + j]? = some u := by
  have hl := entV_length h.1
  unfold cV
  rw [List.getElem?_append_right (by omega), hl, show 38 + j - 37 = j + 1 by omega, List.getElem?_cons_succ, List.getElem?_append_left (List.getElem?_eq_some_iff.1 hu).1]; exact hu
theorem cV_tag {m : Mrk} (h : m.ok) {j : Nat} {u : Value} (hu : (m.tag.map B)[j]? = some u) : (cV m)[105 + j]? = some u := by
  have hl := entV_length h.1
  have hh := hdrV_length h.2.1
  unfold cV
  rw [List.getElem?_append_right (by omega), hl, show 105 + j - 37 = (67 + j) + 1 by omega, List.getElem?_cons_succ, List.getElem?_append_right (by omega), hh, show 67 + j - 67 = j by omega]; exact hu
theorem key_aid : WideMaps.KeyLaw Try.prog 29 := deep_law_laid laid_out' (m := 3) (by omega) (of_decide_eq_true (by kernel_rfl)) (by kernel_rfl) (by kernel_rfl)
theorem aid_self (ds : List UInt8) (h : ds.length = 32) : ∀ w, (Op.equalIn 10000 29 (.agg (ds.map B).toArray) (.agg (ds.map B).toArray)).run Try.prog w = .ok true w := by
  obtain ⟨n4, hn4⟩ := types_3
  obtain ⟨r, hr, hq⟩ := eql_deep key_aid (m := 3) (by omega) (by kernel_rfl) (by kernel_rfl) (by kernel_rfl) (ds.map B) (ds.map B) (by rw [List.length_map, h, cells_id]) (by rw [List.length_map, h, cells_id]) (by rw [hn4]; exact lits_id _ _ h) (by rw [hn4]; exact lits_id _ _ h)
  rw [hr.2 rfl] at hq; exact hq
theorem ent_self {e : Ent} (h : e.ok) : ∀ w, (Op.equalIn 10000 32 (.agg (entV e).toArray) (.agg (entV e).toArray)).run Try.prog w = .ok true w := by
  obtain ⟨n4, hn4⟩ := types_3
  obtain ⟨r, hr, hq⟩ := eql_deep key_entry (m := 3) (by omega) (by kernel_rfl) (by kernel_rfl) (by kernel_rfl) (entV e) (entV e) (by rw [entV_length h, cells_entry]) (by rw [entV_length h, cells_entry]) (by rw [hn4]; exact lits_ent (n4 + 1) e h) (by rw [hn4]; exact lits_ent (n4 + 1) e h)
  rw [hr.2 rfl] at hq; exact hq
theorem hdr_self {e : Hdr} (h : e.ok) : ∀ w, (Op.equalIn 10000 35 (.agg (hdrV e).toArray) (.agg (hdrV e).toArray)).run Try.prog w = .ok true w := by
  obtain ⟨n4, hn4⟩ := types_3
  obtain ⟨r, hr, hq⟩ := eql_deep key_header (m := 3) (by omega) (by kernel_rfl) (by kernel_rfl) (by kernel_rfl) (hdrV e) (hdrV e) (by rw [hdrV_length h, cells_header]) (by rw [hdrV_length h, cells_header]) (by rw [hn4]; exact lits_hdr (n4 + 1) e h) (by rw [hn4]; exact lits_hdr (n4 + 1) e h)
  rw [hr.2 rfl] at hq; exact hq
theorem row_certm : RowT Try.prog 37 137 := ⟨_, Try.underlying37, by kernel_rfl, by kernel_rfl⟩
set_option maxRecDepth 100000 in
theorem rs5_nil (w : World) : Calls Try.prog 85 #[.slice none 0 0, .slice none 0 0] w fun e w' => e = .returned (.bool true) ∧ w = w' := by
  go_enter Try.func85, Try.ntmps85
  go_wp2_with fail
  go_loopw [5] (fun i wr => i = .int .i64 0 ∧ Hid (wr = w)) (fun _ _ => 0)
  case atStart => exact ⟨rfl, Lib.hid rfl⟩
  case round =>
    obtain ⟨rfl, H⟩ := hrel
    go_wp2_with fail
    go_ret
    exact ⟨rfl, H.out.symm⟩
set_option maxRecDepth 100000 in
set_option maxHeartbeats 1000000 in
theorem rs11_self (m : Mrk) (w : World) (h : m.ok) : Calls Try.prog 52 #[.agg (cV m).toArray, .agg (cV m).toArray] w fun e w' => e = .returned (.bool true) ∧ Below w.heap.size w w' := by
  have Q1 := ent_self h.1; have Q2 := hdr_self h.2.1; have Q3 := aid_self m.tag h.2.2.1
  have HE := Lib.hid (fun j u => cV_ent h (j := j) (u := u)); have HH := Lib.hid (fun j u => cV_hdr h (j := j) (u := u)); have HT := Lib.hid (fun j u => cV_tag h (j := j) (u := u)); have HP := Lib.hid (cV_path h)
  have LE := Lib.hid (entV_length h.1); have LH := Lib.hid (hdrV_length h.2.1); have LT := Lib.hid (show (m.tag.map B).length = 32 by rw [List.length_map]; exact h.2.2.1)
  clear h
  generalize cV m = cs at *
  generalize entV m.e = es at *
  generalize hdrV m.h = hs at *
  generalize m.tag.map B = ts at *
  obtain ⟨z, hz⟩ : ∃ z, z = w.heap.size := ⟨_, rfl⟩
  have HZ := Lib.hid hz; clear hz
  go_enter Try.func52, Try.ntmps52
  go_wp2_with (first | (with_reducible refine wpl_box (o := ⟨some 2, _, _, _, _, _⟩) rfl rfl rfl ?_))
  intro w1 hb1 hbw1 hsz1
  rw [← HZ.out] at hb1 hbw1 hsz1 ⊢
  go_wp2_with (first | (with_reducible refine wpl_box (o := ⟨some 3, _, _, _, _, _⟩) rfl rfl rfl ?_))
  intro w2 hb2 hbw2 hsz2
  have B1 := Lib.hid (hb1.below hbw2 (by omega))
  have B2 := Lib.hid hb2
  have HBW := Lib.hid (hbw1.trans (hbw2.mono (by omega)))
  clear hb1 hb2 hbw1 hbw2 hsz2
  generalize hg2 : w1.heap.size = g2 at *
  clear hg2 hsz1
  have E1 := Lib.hid (fun j u (hu : es[j]? = some u) => B1.out.at_ (HE.out j u hu)); have E2 := Lib.hid (fun j u (hu : es[j]? = some u) => B2.out.at_ (HE.out j u hu))
  have H1 := Lib.hid (fun j u (hu : hs[j]? = some u) => B1.out.at_ (HH.out j u hu)); have H2 := Lib.hid (fun j u (hu : hs[j]? = some u) => B2.out.at_ (HH.out j u hu))
  have T1 := Lib.hid (fun j u (hu : ts[j]? = some u) => B1.out.at_ (HT.out j u hu)); have T2 := Lib.hid (fun j u (hu : ts[j]? = some u) => B2.out.at_ (HT.out j u hu))
  have p1 := B1.out.at_ HP.out; have p2 := B2.out.at_ HP.out
  go_wp2_with (first | (with_reducible refine wpl_loadmw (o := ⟨some 6, _, _, _, _, _⟩) (by first | rfl | go_simp) rfl row_entry E1.out rfl LE.out ?_) | (with_reducible refine wpl_loadmw (o := ⟨some 8, _, _, _, _, _⟩) (by first | rfl | go_simp) rfl row_entry E2.out rfl LE.out ?_) | (with_reducible refine wpl_loadmw (o := ⟨some 12, _, _, _, _, _⟩) (by first | rfl | go_simp) rfl row_header H1.out rfl LH.out ?_) | (with_reducible refine wpl_loadmw (o := ⟨some 14, _, _, _, _, _⟩) (by first | rfl | go_simp) rfl row_header H2.out rfl LH.out ?_) | (with_reducible refine wpl_loadmw (o := ⟨some 19, _, _, _, _, _⟩) (by first | rfl | go_simp) rfl row_aid T1.out rfl LT.out ?_) | (with_reducible refine wpl_loadmw (o := ⟨some 21, _, _, _, _, _⟩) (by first | rfl | go_simp) rfl row_aid T2.out rfl LT.out ?_))
  refine (rs5_nil _).mono ?_
  rintro e w3 ⟨rfl, rfl⟩
  go_wp2_with fail
  go_ret
  exact ⟨rfl, by rw [← HZ.out]; exact HBW.out⟩
set_option maxRecDepth 100000 in
set_option maxHeartbeats 1000000 in
theorem rs20_self (m : Mrk) (w : World) (h : m.ok) : Calls Try.prog 16 #[markA m, markA m] w fun e w' => e = .returned (.bool true) ∧ Below w.heap.size w w' := by
  have HC := Lib.hid (fun j u => cV_mark h (j := j) (u := u)); have HX := Lib.hid (mark_exp h); have LC := Lib.hid (cV_len h)
  have HS := Lib.hid (fun w => rs11_self m w h)
  obtain ⟨ex, hex⟩ : ∃ ex, ex = m.expiry := ⟨_, rfl⟩
  rw [← hex] at HX
  clear h hex
  unfold markA
  generalize cV m = cs at *
  generalize markV m = ms at *
  obtain ⟨z, hz⟩ : ∃ z, z = w.heap.size := ⟨_, rfl⟩
  have HZ := Lib.hid hz; clear hz
  go_enter Try.func16, Try.ntmps16
  go_wp2_with (first | (with_reducible refine wpl_box (o := ⟨some 2, _, _, _, _, _⟩) rfl rfl rfl ?_))
  intro w1 hb1 hbw1 hsz1
  rw [← HZ.out] at hb1 hbw1 hsz1 ⊢
  go_wp2_with (first | (with_reducible refine wpl_box (o := ⟨some 3, _, _, _, _, _⟩) rfl rfl rfl ?_))
  intro w2 hb2 hbw2 hsz2
  have B1 := Lib.hid (hb1.below hbw2 (by omega))
  have B2 := Lib.hid hb2
  have HBW := Lib.hid (hbw1.trans (hbw2.mono (by omega)))
  have HSZ := Lib.hid (show z ≤ w2.heap.size by omega)
  clear hb1 hb2 hbw1 hbw2 hsz2
  generalize hg2 : w1.heap.size = g2 at *
  clear hg2 hsz1
  have E1 := Lib.hid (fun j u (hu : cs[j]? = some u) => B1.out.at_ (HC.out j u hu)); have E2 := Lib.hid (fun j u (hu : cs[j]? = some u) => B2.out.at_ (HC.out j u hu))
  have p1 := B1.out.at_ HX.out; have p2 := B2.out.at_ HX.out
  go_wp2_with (first | (with_reducible refine wpl_loadmw (o := ⟨some 12, _, _, _, _, _⟩) (by first | rfl | go_simp) rfl row_certm E1.out rfl LC.out ?_) | (with_reducible refine wpl_loadmw (o := ⟨some 14, _, _, _, _, _⟩) (by first | rfl | go_simp) rfl row_certm E2.out rfl LC.out ?_))
  refine (HS.out _).mono ?_
  rintro e w3 ⟨rfl, hb3⟩
  have HB3 := Lib.hid (HBW.out.trans (hb3.mono HSZ.out))
  clear hb3
  go_wp2_with fail
  go_ret
  exact ⟨rfl, by rw [← HZ.out]; exact HB3.out⟩
end Go.Proofs.Ytolbbhbfbpiljaa

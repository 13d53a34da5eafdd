/- The contract of tx.Check. -/
import Derived.Test.YtnnjjbkdjkjnpaaGreatDoorSpendNoneT14
import Derived.Test.YtnnjjbkdjkjnpaaGreatDoorSpendNoneT6
import Derived.Test.YtnnjjbkdjkjnpaaGreatDoorSpendNoneT11
import Derived.Test.YtnnjjbkdjkjnpaaGreatDoorSpendNoneT13
import Derived.Test.YtnnjjbkdjkjnpaaGreatDoorSpendNoneT7
import Derived.Deep.CutBlock
import Derived.Deep.CutRange
set_option linter.unusedSimpArgs false
/- The contract of tx.Check. -/
namespace Go.Proofs.YtnnjjbkdjkjnpaaGreatDoor
open Go.RowKit Go.Shelf
set_option linter.unusedVariables false
theorem OwnU.sl {w : World} {base n c : Nat} {A : Option Addr} {zs : List Value} (h : OwnU w base A n c zs) : Sl w w.heap.size 1 A n zs := Sl.of_own h
set_option maxRecDepth 100000 in
set_option maxHeartbeats 8000000 in
theorem tcheck_any {A : Option Addr} {n c : Nat} {A2 : Option Addr} {n2 c2 : Nat} {fee ex : Int} {l : List (Value × Inp)} {os : List Outp} (w : World) (hi : InsAt w A n c l) (ho : OutsAt w A2 n2 c2 os) (hn : n ≤ 100000) (hn2 : n2 ≤ 100000) (hf : U64 fee) (hex : I64 ex) :
    Calls Tryz.prog 40 #[.agg (txV A n c A2 n2 c2 fee ex).toArray] w fun e w' => e = .returned (.int .i64 (checkT ⟨l.map Prod.snd, os, fee, ex⟩)) ∧ Grow w w' := by
  have HI := Lib.hid hi; have HO := Lib.hid ho
  have HTC := Lib.hid (txV_cl (A := A) (n := n) (c := c) (A2 := A2) (n2 := n2) (c2 := c2) (fee := fee) (ex := ex))
  have HT2 := Lib.hid (show (txV A n c A2 n2 c2 fee ex)[2]? = some (.int .u64 fee) from rfl)
  have HAM := Lib.hid (fun w hi ho => amounts_any (A := A) (n := n) (c := c) (A2 := A2) (n2 := n2) (c2 := c2) (fee := fee) (ex := ex) (l := l) (os := os) w hi ho (by omega) (by omega))
  have HLG := Lib.hid (fun w hi => islong_any (A := A) (n := n) (c := c) (A2 := A2) (n2 := n2) (c2 := c2) (fee := fee) (ex := ex) (l := l) (os := os) w hi ho.2.2.1 (by omega) (by omega) hex)
  have HTW := Lib.hid (fun w hi => istwice_any (A := A) (n := n) (c := c) (A2 := A2) (n2 := n2) (c2 := c2) (fee := fee) (ex := ex) (l := l) (os := os) w hi (by omega))
  obtain ⟨t, ht⟩ : ∃ t, t = Txn.mk (l.map Prod.snd) os fee ex := ⟨_, rfl⟩
  obtain ⟨lg, hlg⟩ : ∃ q, q = longT t := ⟨_, rfl⟩
  obtain ⟨tw, htw⟩ : ∃ q, q = twiceT t := ⟨_, rfl⟩
  rw [← ht, ← hlg] at HLG
  rw [← ht, ← htw] at HTW
  have e1 : t.ins.map Inp.amount = amI l := by rw [ht]; simp [amI]
  have e2 : t.outs.map Outp.amount = amO os := by rw [ht]; rfl
  have e3 : t.fee = fee := by rw [ht]
  have HP1 := Lib.hid (show ∀ z ∈ amI l, 0 ≤ z from fun z hz => by obtain ⟨p, hp, rfl⟩ := List.mem_map.1 hz; exact (hi.2.1 p hp).2.2.2.1)
  have HP2 := Lib.hid (show ∀ z ∈ amO os ++ [fee], 0 ≤ z from fun z hz => by
    rcases List.mem_append.1 hz with h | h
    · obtain ⟨p, hp, rfl⟩ := List.mem_map.1 h; exact (ho.2.1 p hp).2.1
    · rw [List.mem_singleton.1 h]; exact hf.1)
  obtain ⟨z1, hz1⟩ : ∃ q, q = (amI l).contains 0 := ⟨_, rfl⟩
  obtain ⟨z2, hz2⟩ : ∃ q, q = (amO os).contains 0 := ⟨_, rfl⟩
  have HC1 := Lib.hid (fun (A : Option Addr) (c : Nat) w hs => contains64_any (A := A) (n := n) (c := c) (zs := amI l) (x := 0) w hs (by omega))
  have HC2 := Lib.hid (fun (A : Option Addr) (c : Nat) w hs => contains64_any (A := A) (n := n2) (c := c) (zs := amO os) (x := 0) w hs (by omega))
  have HA1 := Lib.hid (fun (A : Option Addr) (c : Nat) w hs => all_any A n c (amI l) w hs (by omega) HP1.out)
  have HA2 := Lib.hid (fun (A : Option Addr) (c : Nat) w hs => all_any A (n2 + 1) c (amO os ++ [fee]) w hs (by omega) HP2.out)
  rw [← hz1] at HC1
  rw [← hz2] at HC2
  obtain ⟨s1, hs1⟩ : ∃ q, q = (allE 0 (amI l)).1 := ⟨_, rfl⟩
  obtain ⟨r1, hr1⟩ : ∃ q, q = (allE 0 (amI l)).2 := ⟨_, rfl⟩
  obtain ⟨s2, hs2⟩ : ∃ q, q = (allE 0 (amO os ++ [fee])).1 := ⟨_, rfl⟩
  obtain ⟨r2, hr2⟩ : ∃ q, q = (allE 0 (amO os ++ [fee])).2 := ⟨_, rfl⟩
  rw [← hs1, ← hr1] at HA1
  rw [← hs2, ← hr2] at HA2
  have HCK := Lib.hid (show checkT t = if lg = true then 4 else if tw = true then 7 else if (z1 || z2) = true then 8 else if r1 ≠ 0 then r1 else if r2 ≠ 0 then r2 else if s1 ≠ s2 then 9 else 0 by
    unfold checkT zeroT
    rw [e1, e2, e3, ← hlg, ← htw, ← hz1, ← hz2, ← hs1, ← hr1, ← hs2, ← hr2])
  rw [← ht]
  obtain ⟨ck, hck⟩ : ∃ q, q = checkT t := ⟨_, rfl⟩
  rw [← hck] at HCK ⊢
  have HZ := Lib.hid (show ((amO os ++ [fee]).map (Value.int .u64)) = (amO os).map (Value.int .u64) ++ [.int .u64 fee] by simp)
  obtain ⟨tv, htv⟩ : ∃ q, q = txV A n c A2 n2 c2 fee ex := ⟨_, rfl⟩
  rw [← htv] at HTC HT2 HAM HLG HTW ⊢
  obtain ⟨xs1, hx1⟩ : ∃ q, q = (amI l).map (Value.int .u64) := ⟨_, rfl⟩
  obtain ⟨xs2, hx2⟩ : ∃ q, q = (amO os).map (Value.int .u64) := ⟨_, rfl⟩
  rw [← hx1, ← hx2] at HAM
  rw [← hx1] at HC1 HA1
  rw [← hx2] at HC2 HZ
  obtain ⟨xs3, hx3⟩ : ∃ q, q = (amO os ++ [fee]).map (Value.int .u64) := ⟨_, rfl⟩
  rw [← hx3] at HA2 HZ
  obtain ⟨w_, hw⟩ : ∃ x, x = w := ⟨_, rfl⟩
  have HB := Lib.hid (show Below w.heap.size w w_ by rw [hw]; exact Below.refl _ _)
  suffices H : Calls Tryz.prog 40 #[.agg tv.toArray] w_ fun e w' => e = .returned (.int .i64 ck) ∧ Grow w w' by rw [hw] at H; exact H
  clear hw hi ho ht hlg htw e1 e2 e3 hz1 hz2 hs1 hr1 hs2 hr2 hck htv hx1 hx2 hx3 hf hex
  go_enter Tryz.func40, Tryz.ntmps40
  go_wp2_with (first | (with_reducible refine wpl_box (o := ⟨some 1, _, _, _, _, _⟩) rfl rfl rfl ?_))
  intro w2_ hb2_ hb_ hsz2_
  have HX_ := Lib.hid (at_mk hb2_ HTC.out.len)
  clear hb2_ hsz2_
  have HG_ := Lib.hid HB.out.size
  have HB_ := Lib.hid (HB.out.grow' hb_)
  clear HB
  have HB := HB_
  clear HB_
  generalize hg_ : w_.heap.size = g1 at HX_ HG_ ⊢
  clear hg_
  have HX_g := HG_
  clear HG_
  have HX := HX_
  clear hb_ HX_
  try clear w_
  rename World => w_
  go_wp2_with (first | (with_reducible refine wpl_loadb (o := ⟨some 9, _, _, _, _, _⟩) rfl rfl row_tx HX.out.blk rfl HX.out.len ?_))
  refine (HAM.out _ (HI.out.grow HB.out) (HO.out.grow HB.out)).mono ?_
  rintro e w2_ ⟨A3, c3, A4, c4, rfl, hu1, hu2, hb_⟩
  have HU1 := Lib.hid hu1
  have HU2 := Lib.hid (show OwnU w2_ w_.heap.size A4 n2 c4 xs2 from hu2)
  have HGB := Lib.hid (show w.heap.size ≤ w_.heap.size ∧ g1 < w_.heap.size from ⟨HB.out.size, HX.out.lt⟩)
  obtain ⟨b4, hb4⟩ : ∃ q, q = w_.heap.size := ⟨_, rfl⟩
  have HSB := Lib.hid (show SzG w2_ w_.heap.size from hb_.size)
  rw [← hb4] at HU1 HU2 HGB HSB
  have HX1 := Lib.hid (HX.out.grow hb_)
  clear hu1 hu2 hb4
  clear HX
  have HX := HX1
  clear HX1
  have HB1_ := Lib.hid (HB.out.grow' hb_)
  clear HB hb_
  have HB := HB1_
  clear HB1_
  try clear w_
  rename World => w_
  go_wp2_with (first | (with_reducible refine wpl_loadb (o := ⟨some 14, _, _, _, _, _⟩) rfl rfl row_tx HX.out.blk rfl HX.out.len ?_))
  refine (HLG.out _ (HI.out.grow HB.out)).mono ?_
  rintro e w_ ⟨rfl, hb_⟩
  have HB_ := Lib.hid (HB.out.grow' hb_)
  clear HB
  have HB := HB_
  clear HB_
  have HX_ := Lib.hid (HX.out.grow hb_)
  clear HX
  have HX := HX_
  clear HX_
  have HU1_ := Lib.hid (HU1.out.grow hb_)
  clear HU1
  have HU1 := HU1_
  clear HU1_
  have HU2_ := Lib.hid (HU2.out.grow hb_)
  clear HU2
  have HU2 := HU2_
  clear HU2_
  have HSB_ := Lib.hid (HSB.out.grow hb_)
  clear HSB
  have HSB := HSB_
  clear HSB_
  clear hb_
  cases lg with
  | true =>
    go_wp2_with fail
    go_ret
    exact ⟨by rw [HCK.out]; rfl, HB.out⟩
  | false =>
    go_wp2_with (first | (with_reducible refine wpl_loadb (o := ⟨some 17, _, _, _, _, _⟩) rfl rfl row_tx HX.out.blk rfl HX.out.len ?_))
    refine (HTW.out _ (HI.out.grow HB.out)).mono ?_
    rintro e w_ ⟨rfl, hb_⟩
    have HB_ := Lib.hid (HB.out.grow' hb_)
    clear HB
    have HB := HB_
    clear HB_
    have HX_ := Lib.hid (HX.out.grow hb_)
    clear HX
    have HX := HX_
    clear HX_
    have HU1_ := Lib.hid (HU1.out.grow hb_)
    clear HU1
    have HU1 := HU1_
    clear HU1_
    have HU2_ := Lib.hid (HU2.out.grow hb_)
    clear HU2
    have HU2 := HU2_
    clear HU2_
    have HSB_ := Lib.hid (HSB.out.grow hb_)
    clear HSB
    have HSB := HSB_
    clear HSB_
    clear hb_
    cases tw with
    | true =>
      go_wp2_with fail
      go_ret
      exact ⟨by rw [HCK.out]; rfl, HB.out⟩
    | false =>
      go_wp2_with fail
      refine (HC1.out _ _ _ HU1.out.sl).mono ?_
      rintro e w2_ ⟨rfl, rfl⟩
      cases z1 with
      | true =>
        go_wp2_with fail
        go_ret
        exact ⟨by rw [HCK.out]; rfl, HB.out⟩
      | false =>
        go_wp2_with fail
        refine (HC2.out _ _ _ HU2.out.sl).mono ?_
        rintro e w2_ ⟨rfl, rfl⟩
        cases z2 with
        | true =>
          go_wp2_with fail
          go_ret
          exact ⟨by rw [HCK.out]; rfl, HB.out⟩
        | false =>
          go_wp2_with fail
          refine (HA1.out _ _ _ HU1.out.sl).mono ?_
          clear HU1
          rintro e w_ ⟨rfl, hb_⟩
          have HB_ := Lib.hid (HB.out.grow' hb_)
          clear HB
          have HB := HB_
          clear HB_
          have HX_ := Lib.hid (HX.out.grow hb_)
          clear HX
          have HX := HX_
          clear HX_
          have HU2_ := Lib.hid (HU2.out.grow hb_)
          clear HU2
          have HU2 := HU2_
          clear HU2_
          have HSB_ := Lib.hid (HSB.out.grow hb_)
          clear HSB
          have HSB := HSB_
          clear HSB_
          clear hb_
          by_cases h1 : r1 = 0
          · have HC3 := Lib.hid (show ck = if r2 ≠ 0 then r2 else if s1 ≠ s2 then 9 else 0 by rw [HCK.out]; simp [h1])
            subst h1
            have c2 := HX.out.blk.at_ HT2.out
            have HSZ := Lib.hid (show b4 ≤ w_.heap.size from HSB.out)
            have HR3 := Lib.hid (show w_.ownsRow b4 25 1 (.slice A4 n2 c4) n2 xs2 from HU2.out)
            go_wp2_with (first | (at_builtin; refine wpl_app1 rfl rfl el_us HR3.out rfl (m := 1) rfl ?_ ?_ ?_ ?_ ?_ ?_))
            · rfl
            · rfl
            · omega
            · omega
            · exact HSZ.out
            intro A5 c5 w4_ ho_ hg_ hA_
            have hne_ := own_from HR3.out
            have HB_ := Lib.hid (below_grown HB.out hg_ HB.out.size (fun x hx => by have := hne_ _ hx; have := HGB.out; omega))
            have HS5 := Lib.hid (show Sl w4_ w4_.heap.size 1 A5 (n2 + 1) xs3 by rw [HZ.out]; exact Sl.of_own ho_)
            clear ho_ hg_ hA_ hne_ HB HR3 HU2 HX c2
            go_wp2_with fail
            refine (HA2.out _ _ _ HS5.out).mono ?_
            rintro e w5_ ⟨rfl, hb_⟩
            have HB := Lib.hid (HB_.out.grow' hb_)
            clear hb_ HB_ HS5
            by_cases h2 : r2 = 0
            · have HC4 := Lib.hid (show ck = if s1 ≠ s2 then 9 else 0 by rw [HC3.out]; simp [h2])
              subst h2
              by_cases h3 : s1 = s2
              · have d3 : (s1 != s2) = false := by simpa using h3
                have HC5 := Lib.hid (show ck = 0 by rw [HC4.out]; simp [h3])
                clear h3
                go_wp2_with fail
                go_ret
                exact ⟨by rw [HC5.out]; rfl, HB.out⟩
              · have d3 : (s1 != s2) = true := by simpa using h3
                have HC5 := Lib.hid (show ck = 9 by rw [HC4.out]; simp [h3])
                clear h3
                go_wp2_with fail
                go_ret
                exact ⟨by rw [HC5.out]; rfl, HB.out⟩
            · have d2 : (r2 != 0) = true := by simpa using h2
              have HC4 := Lib.hid (show ck = r2 by rw [HC3.out]; simp [h2])
              clear h2
              go_wp2_with fail
              go_ret
              exact ⟨by rw [HC4.out]; rfl, HB.out⟩
          · have d1 : (r1 != 0) = true := by simpa using h1
            have HC3 := Lib.hid (show ck = r1 by rw [HCK.out]; simp [h1])
            clear h1
            go_wp2_with fail
            go_ret
            exact ⟨by rw [HC3.out]; rfl, HB.out⟩
end Go.Proofs.YtnnjjbkdjkjnpaaGreatDoor
/- Contracts of layer 6: tag.Of, tag.Is. -/
namespace Go.Proofs.YtnnjjbkdjkjnpaaGreatDoor
open Go.RowKit Go.Shelf
set_option linter.unusedVariables false
end Go.Proofs.YtnnjjbkdjkjnpaaGreatDoor
/- The contract of header.Follows. Printed by mkhdrf.py. -/
namespace Go.Proofs.YtnnjjbkdjkjnpaaGreatDoor
open Go.RowKit Go.Shelf
set_option linter.unusedVariables false
section
variable {P : Program} {ops : Array Oper} {am cl : List Nat} {sp : Nat → Sp} {w0 : World} {Q : Exit → Act → World → Prop} {us : List Nat} {L : List (Nat × (World → Prop))} {o : Oper} {i : Nat} {a : Act}
end
end Go.Proofs.YtnnjjbkdjkjnpaaGreatDoor
/- The contract of the document's Check. Printed by mkrchk.py. -/
namespace Go.Proofs.YtnnjjbkdjkjnpaaGreatDoor
open Go.RowKit Go.Shelf
set_option linter.unusedVariables false
theorem cont_snoc {α : Type} (f : α → Int) {l : List α} {k : Nat} {p : α} (h : l[k]? = some p) : ((l.take (k + 1)).map f).contains 0 = (((l.take k).map f).contains 0 || (f p == 0)) := by
  rw [take_snoc h, List.map_append]
  generalize (l.take k).map f = L
  rw [Bool.eq_iff_iff]
  simp only [List.map_cons, List.map_nil, List.contains_iff_mem, List.mem_append, List.mem_singleton, Bool.or_eq_true, beq_iff_eq]
  exact ⟨fun h => h.imp id Eq.symm, fun h => h.imp id Eq.symm⟩
theorem nodup_snoc {α : Type} {l : List α} {k : Nat} {p : α} (h : l[k]? = some p) (hn : (l.take k).Nodup) (hp : p ∉ l.take k) : (l.take (k + 1)).Nodup := by
  rw [take_snoc h, List.nodup_append]
  exact ⟨hn, by simp, fun a ha c hc e => by rw [List.mem_singleton.1 hc] at e; subst e; exact hp ha⟩
theorem mem_snoc {α : Type} {l : List α} {k : Nat} {p x : α} (h : l[k]? = some p) (hp : x ∉ l.take k) (hx : p ≠ x) : x ∉ l.take (k + 1) := by
  rw [take_snoc h, List.mem_append, List.mem_singleton]
  exact fun h => h.elim hp (fun e => hx e.symm)
theorem not_nodup {α : Type} [DecidableEq α] {l : List α} {j k : Nat} {p : α} (hj : l[j]? = some p) (hk : l[k]? = some p) (h : j < k) : decide l.Nodup = false := by
  rw [decide_eq_false_iff_not]
  intro hn
  obtain ⟨h1, e1⟩ := List.getElem?_eq_some_iff.1 hj
  obtain ⟨h2, e2⟩ := List.getElem?_eq_some_iff.1 hk
  have := (List.getElem_inj hn (h₀ := h1) (h₁ := h2)).1 (e1.trans e2.symm)
  omega
theorem InsAt.pt_ {w : World} {b off n c : Nat} {l : List (Value × Inp)} (h : InsAt w (some ⟨b, off, none⟩) n c l) {k : Nat} (hk : k < n) :
    ∃ p, l[k]? = some p ∧ ptKO p.2.pt ∧ (∀ j u, (ptKV p.2.pt)[j]? = some u → w.cell? ⟨b, off + k * 35 + j, none⟩ = some u) ∧ w.cell? ⟨b, off + k * 35 + 33, none⟩ = some (.int .u64 p.2.amount) := by
  obtain ⟨b', off', p, e, hp, hok, hc⟩ := h.at_ hk
  injection e with e
  injection e with e1 e2
  subst e1; subst e2
  refine ⟨p, hp, ⟨hok.2.1, hok.2.2.1⟩, fun j u hu => hc j u ?_, hc 33 _ (in_at (v := p.1) hok.2).2.1⟩
  have e : inV p.1 p.2 = ptKV p.2.pt ++ [.int .u64 p.2.amount, p.1] := by simp [inV, ptKV, Inp.pt]
  rw [e, List.getElem?_append_left (List.getElem?_eq_some_iff.1 hu).1]; exact hu
theorem pt_eq {x y : List UInt8 × Int} (hx : ptKO x) (hy : ptKO y) : ∃ r : Bool, (r = true ↔ x = y) ∧ ∀ w, (Op.equalIn 10000 69 (.agg (ptKV x).toArray) (.agg (ptKV y).toArray)).run Tryz.prog w = .ok r w := by
  obtain ⟨n4, hn4⟩ := types_3
  obtain ⟨r, hr, hq⟩ := eql_deep key_pt (m := 3) (by omega) (by kernel_rfl) (by kernel_rfl) (by kernel_rfl) (ptKV x) (ptKV y) (by rw [ptKV_len hx, cells_point]) (by rw [ptKV_len hy, cells_point]) (by rw [hn4]; exact lits_pt (n4 + 1) _ hx) (by rw [hn4]; exact lits_pt (n4 + 1) _ hy)
  exact ⟨r, hr.trans ⟨fun h => ptKA_inj hx.1 hy.1 (by unfold ptKA; rw [h]), fun h => by rw [h]⟩, hq⟩
set_option maxRecDepth 100000 in
set_option maxHeartbeats 16000000 in
theorem rtcheck_any {A : Option Addr} {n c : Nat} {A2 : Option Addr} {n2 c2 : Nat} {fee ex : Int} {l : List (Value × Inp)} {os : List Outp} (w : World) (hi : InsAt w A n c l) (ho : OutsAt w A2 n2 c2 os) (hn : n ≤ 100000) (hn2 : n2 ≤ 100000) (hf : U64 fee) (hex : I64 ex) :
    Calls Tryz.prog 19 #[.agg (txV A n c A2 n2 c2 fee ex).toArray] w fun e w' => e = .returned (.int .i64 (checkT ⟨l.map Prod.snd, os, fee, ex⟩)) ∧ Grow w w' := by
  have HI := Lib.hid hi; have HO := Lib.hid ho
  have HTC := Lib.hid (txV_cl (A := A) (n := n) (c := c) (A2 := A2) (n2 := n2) (c2 := c2) (fee := fee) (ex := ex))
  have HT2 := Lib.hid (show (txV A n c A2 n2 c2 fee ex)[2]? = some (.int .u64 fee) from rfl)
  obtain ⟨t, ht⟩ : ∃ t, t = Txn.mk (l.map Prod.snd) os fee ex := ⟨_, rfl⟩
  obtain ⟨lg, hlg⟩ : ∃ q, q = longT t := ⟨_, rfl⟩
  obtain ⟨tw, htw⟩ : ∃ q, q = twiceT t := ⟨_, rfl⟩
  have HT0 := Lib.hid (show (txV A n c A2 n2 c2 fee ex)[0]? = some (.slice A n c) from rfl)
  have HT1 := Lib.hid (show (txV A n c A2 n2 c2 fee ex)[1]? = some (.slice A2 n2 c2) from rfl)
  have HT3 := Lib.hid (show (txV A n c A2 n2 c2 fee ex)[3]? = some (.int .i64 ex) from rfl)
  have e1 : t.ins.map Inp.amount = amI l := by rw [ht]; simp [amI]
  have e2 : t.outs.map Outp.amount = amO os := by rw [ht]; rfl
  have e3 : t.fee = fee := by rw [ht]
  have HP1 := Lib.hid (show ∀ z ∈ amI l, 0 ≤ z from fun z hz => by obtain ⟨p, hp, rfl⟩ := List.mem_map.1 hz; exact (hi.2.1 p hp).2.2.2.1)
  have HP2 := Lib.hid (show ∀ z ∈ amO os ++ [fee], 0 ≤ z from fun z hz => by
    rcases List.mem_append.1 hz with h | h
    · obtain ⟨p, hp, rfl⟩ := List.mem_map.1 h; exact (ho.2.1 p hp).2.1
    · rw [List.mem_singleton.1 h]; exact hf.1)
  obtain ⟨z1, hz1⟩ : ∃ q, q = (amI l).contains 0 := ⟨_, rfl⟩
  obtain ⟨z2, hz2⟩ : ∃ q, q = (amO os).contains 0 := ⟨_, rfl⟩
  have HA1 := Lib.hid (fun (A : Option Addr) (c : Nat) w hs => rall_any A n c (amI l) w hs (by omega) HP1.out)
  have HA2 := Lib.hid (fun (A : Option Addr) (c : Nat) w hs => rall_any A (n2 + 1) c (amO os ++ [fee]) w hs (by omega) HP2.out)
  obtain ⟨s1, hs1⟩ : ∃ q, q = (allE 0 (amI l)).1 := ⟨_, rfl⟩
  obtain ⟨r1, hr1⟩ : ∃ q, q = (allE 0 (amI l)).2 := ⟨_, rfl⟩
  obtain ⟨s2, hs2⟩ : ∃ q, q = (allE 0 (amO os ++ [fee])).1 := ⟨_, rfl⟩
  obtain ⟨r2, hr2⟩ : ∃ q, q = (allE 0 (amO os ++ [fee])).2 := ⟨_, rfl⟩
  rw [← hs1, ← hr1] at HA1
  rw [← hs2, ← hr2] at HA2
  have HCK := Lib.hid (show checkT t = if lg = true then 4 else if tw = true then 7 else if (z1 || z2) = true then 8 else if r1 ≠ 0 then r1 else if r2 ≠ 0 then r2 else if s1 ≠ s2 then 9 else 0 by
    unfold checkT zeroT
    rw [e1, e2, e3, ← hlg, ← htw, ← hz1, ← hz2, ← hs1, ← hr1, ← hs2, ← hr2])
  rw [← ht]
  obtain ⟨ck, hck⟩ : ∃ q, q = checkT t := ⟨_, rfl⟩
  rw [← hck] at HCK ⊢
  have HZ := Lib.hid (show ((amO os ++ [fee]).map (Value.int .u64)) = (amO os).map (Value.int .u64) ++ [.int .u64 fee] by simp)
  have HLE := Lib.hid (show lg = (!(inB n 1 16 && inB n2 1 16 && inB ex 0 1099511627776) || (l.map Prod.snd).any longI) by rw [hlg, ht]; unfold longT shortT; simp only [List.length_map]; rw [hi.2.2.1, ho.2.2.1])
  have HTE := Lib.hid (show tw = !decide (((l.map Prod.snd).map Inp.pt)).Nodup by rw [htw, ht]; rfl)
  have HZ1 := Lib.hid hz1; have HZ2 := Lib.hid hz2
  obtain ⟨tv, htv⟩ : ∃ q, q = txV A n c A2 n2 c2 fee ex := ⟨_, rfl⟩
  rw [← htv] at HTC HT0 HT1 HT2 HT3 ⊢
  have HEXR := Lib.hid hex
  obtain ⟨xs1, hx1⟩ : ∃ q, q = (amI l).map (Value.int .u64) := ⟨_, rfl⟩
  obtain ⟨xs2, hx2⟩ : ∃ q, q = (amO os).map (Value.int .u64) := ⟨_, rfl⟩
  rw [← hx1] at HA1
  rw [← hx2] at HZ
  obtain ⟨xs3, hx3⟩ : ∃ q, q = (amO os ++ [fee]).map (Value.int .u64) := ⟨_, rfl⟩
  rw [← hx3] at HA2 HZ
  obtain ⟨w_, hw⟩ : ∃ x, x = w := ⟨_, rfl⟩
  have HB := Lib.hid (show Below w.heap.size w w_ by rw [hw]; exact Below.refl _ _)
  suffices H : Calls Tryz.prog 19 #[.agg tv.toArray] w_ fun e w' => e = .returned (.int .i64 ck) ∧ Grow w w' by rw [hw] at H; exact H
  have HX1 := Lib.hid hx1; have HX2 := Lib.hid hx2
  clear hw hi ho ht hlg htw e1 e2 e3 hz1 hz2 hs1 hr1 hs2 hr2 hck htv hx1 hx2 hx3 hf hex
  go_enter Tryz.func19, Tryz.ntmps19
  go_wp2_with (first | (with_reducible refine wpl_box (o := ⟨some 1, _, _, _, _, _⟩) rfl rfl rfl ?_))
  intro w2_ hb2_ hb_ hsz2_
  have HX_ := Lib.hid (at_mk hb2_ HTC.out.len)
  clear hb2_ hsz2_
  have HG_ := Lib.hid HB.out.size
  have HB_ := Lib.hid (HB.out.grow' hb_)
  clear HB
  have HB := HB_
  clear HB_
  generalize hg_ : w_.heap.size = g1 at HX_ HG_ ⊢
  clear hg_
  have HX_g := HG_
  clear HG_
  have HX := HX_
  clear hb_ HX_
  try clear w_
  rename World => w_
  have c0 := HX.out.blk.at_ HT0.out
  have c1 := HX.out.blk.at_ HT1.out
  have c3 := HX.out.blk.at_ HT3.out
  obtain ⟨q1, hq1⟩ : ∃ q, decide ((n : Int) < 1) = q := ⟨_, rfl⟩
  obtain ⟨q2, hq2⟩ : ∃ q, decide ((16 : Int) < (n : Int)) = q := ⟨_, rfl⟩
  obtain ⟨q3, hq3⟩ : ∃ q, decide ((n2 : Int) < 1) = q := ⟨_, rfl⟩
  obtain ⟨q4, hq4⟩ : ∃ q, decide ((16 : Int) < (n2 : Int)) = q := ⟨_, rfl⟩
  obtain ⟨q5, hq5⟩ : ∃ q, decide (ex < 0) = q := ⟨_, rfl⟩
  obtain ⟨q6, hq6⟩ : ∃ q, decide ((1099511627776 : Int) < ex) = q := ⟨_, rfl⟩
  obtain ⟨sh, hsh⟩ : ∃ s, s = (q1 || q2 || q3 || q4 || q5 || q6) := ⟨_, rfl⟩
  have HSH := Lib.hid hsh
  have HSE := Lib.hid (show sh = !(inB n 1 16 && inB n2 1 16 && inB ex 0 1099511627776) by
    rw [hsh, ← hq1, ← hq2, ← hq3, ← hq4, ← hq5, ← hq6, Bool.eq_iff_iff]
    unfold inB
    simp
    omega)
  clear hsh
  go_upto_region 1 with fail
  go_cut [45] from 14 (fun s45 wr => s45 = .bool sh ∧ wr = w_)
  case first =>
    cases q1 with
    | true =>
      go_wp2_with fail
      go_meet
      case rel => exact ⟨by rw [HSH.out]; first | rfl | simp, rfl⟩
    | false =>
      cases q2 with
      | true =>
        go_wp2_with fail
        go_meet
        case rel => exact ⟨by rw [HSH.out]; first | rfl | simp, rfl⟩
      | false =>
        cases q3 with
        | true =>
          go_wp2_with fail
          go_meet
          case rel => exact ⟨by rw [HSH.out]; first | rfl | simp, rfl⟩
        | false =>
          cases q4 with
          | true =>
            go_wp2_with fail
            go_meet
            case rel => exact ⟨by rw [HSH.out]; first | rfl | simp, rfl⟩
          | false =>
            cases q5 with
            | true =>
              go_wp2_with fail
              go_meet
              case rel => exact ⟨by rw [HSH.out]; first | rfl | simp, rfl⟩
            | false =>
              cases q6 with
              | true =>
                go_wp2_with fail
                go_meet
                case rel => exact ⟨by rw [HSH.out]; first | rfl | simp, rfl⟩
              | false =>
                go_wp2_with fail
                go_meet
                case rel => exact ⟨by rw [HSH.out]; first | rfl | simp, rfl⟩
  case rest =>
    obtain ⟨rfl, rfl⟩ := hcut
    clear hq1 hq2 hq3 hq4 hq5 hq6 c1 c3 HSH
    try clear q1 q2 q3 q4 q5 q6
    rename World => w_
    cases sh with
    | true =>
      have HL1 := Lib.hid (show ck = 4 by rw [HCK.out, HLE.out, ← HSE.out]; simp)
      go_wp2_with fail
      go_ret
      exact ⟨by rw [HL1.out]; rfl, HB.out⟩
    | false =>
      have HN16 := Lib.hid (show n ≤ 16 ∧ n2 ≤ 16 by
        have h := HSE.out.symm
        simp only [Bool.not_eq_false', Bool.and_eq_true, inB_iff] at h
        omega)
      have HLE2 := Lib.hid (show lg = (l.map Prod.snd).any longI by rw [HLE.out, ← HSE.out]; simp)
      obtain ⟨ins, hins⟩ : ∃ q, q = l.map Prod.snd := ⟨_, rfl⟩
      have HINS := Lib.hid hins
      rw [← hins] at HLE2 HTE
      have HINL := Lib.hid (show ins.length = n by rw [hins, List.length_map]; exact HI.out.2.2.1)
      clear hins HSE HLE
      go_upto_block 0 with fail
      go_cut [] from 14 (fun wr => Hid (lg = false) ∧ wr = w_)
      case first =>
        go_wp2_with fail
        go_loopw [3] (fun iv wr => ∃ k : Nat, k ≤ n ∧ iv = .int .i64 k ∧ Hid ((ins.take k).any longI = false) ∧ wr = w_) (fun iv _ => n - (intOf iv).toNat)
        case atStart => exact ⟨0, by omega, rfl, Lib.hid (by simp), rfl⟩
        case round =>
          obtain ⟨k, hk, rfl, hany, rfl⟩ := hrel
          by_cases hlt : k < n
          · obtain ⟨b, off, p, rfl, hp, hok, hc⟩ := HI.out.at_ hlt
            have HAT := Lib.hid (in_at (v := p.1) hok.2)
            obtain ⟨⟨A4, c4, e4, _, _⟩, hio⟩ := hok
            have c34 := bcell HB.out (hc 34 _ HAT.out.2.2)
            have c32 := bcell HB.out (hc 32 _ HAT.out.1)
            rw [e4] at c34
            have HSN := Lib.hid (any_take longI (l := ins) (k := k) (p := p.2) (by rw [HINS.out, List.getElem?_map, hp]; rfl))
            have HME := Lib.hid (show p.2 ∈ ins by rw [HINS.out]; exact List.mem_map_of_mem (List.mem_of_getElem? hp))
            obtain ⟨sl, hsl⟩ : ∃ q, q = p.2.secret.length := ⟨_, rfl⟩
            obtain ⟨ix, hix⟩ : ∃ q, q = p.2.index := ⟨_, rfl⟩
            rw [← hsl] at c34
            rw [← hix] at c32
            obtain ⟨q1, hq1⟩ : ∃ q, decide ((64 : Int) < (sl : Int)) = q := ⟨_, rfl⟩
            obtain ⟨q2, hq2⟩ : ∃ q, decide (ix < 0) = q := ⟨_, rfl⟩
            obtain ⟨q3, hq3⟩ : ∃ q, decide ((15 : Int) < ix) = q := ⟨_, rfl⟩
            have HLI := Lib.hid (show longI p.2 = (q1 || q2 || q3) by
              unfold longI inB
              rw [← hq1, ← hq2, ← hq3, ← hsl, ← hix, Bool.eq_iff_iff]
              simp
              omega)
            have v1 : IntKind.i64.wrap ((k : Int) + 1) = (k : Int) + 1 := IntWalk.i64_in _ (by omega)
            have v2 : RowKit.wrap64 ((k : Int) + 1) = (k : Int) + 1 := wrap64_in _ (by clear v1; omega)
            clear hp hc hio e4 hsl hix
            cases q1 with
            | true =>
              have HL1 := Lib.hid (show ck = 4 by rw [HCK.out, HLE2.out, if_pos (List.any_eq_true.2 ⟨_, HME.out, by rw [HLI.out]; simp⟩)])
              go_wp2_with fail
              go_ret
              exact ⟨by rw [HL1.out]; rfl, HB.out⟩
            | false =>
              cases q2 with
              | true =>
                have HL1 := Lib.hid (show ck = 4 by rw [HCK.out, HLE2.out, if_pos (List.any_eq_true.2 ⟨_, HME.out, by rw [HLI.out]; simp⟩)])
                go_wp2_with fail
                go_ret
                exact ⟨by rw [HL1.out]; rfl, HB.out⟩
              | false =>
                cases q3 with
                | true =>
                  have HL1 := Lib.hid (show ck = 4 by rw [HCK.out, HLE2.out, if_pos (List.any_eq_true.2 ⟨_, HME.out, by rw [HLI.out]; simp⟩)])
                  go_wp2_with fail
                  go_ret
                  exact ⟨by rw [HL1.out]; rfl, HB.out⟩
                | false =>
                  have HNX := Lib.hid (show (ins.take (k + 1)).any longI = false by rw [HSN.out, hany.out, HLI.out]; rfl)
                  go_wp2_with fail
                  go_roundw
                  all_goals clear v1 v2
                  case rel => exact ⟨k + 1, by omega, by go_num, HNX, by first | trivial | rfl⟩
                  case measure => simp [intOf]; omega
          · obtain rfl : k = n := by omega
            have HLF := Lib.hid (show lg = false by rw [HLE2.out]; have h := hany.out; rw [List.take_of_length_le (by rw [HINL.out]; exact Nat.le_refl _)] at h; exact h)
            go_wp2_with fail
            go_meet
            case rel => exact ⟨HLF, rfl⟩
      case rest =>
        obtain ⟨hlf, rfl⟩ := hcut
        rename World => w_
        rename_i u2_ u3_
        obtain ⟨pts, hpts⟩ : ∃ q, q = ins.map Inp.pt := ⟨_, rfl⟩
        have HPTS := Lib.hid hpts
        rw [← hpts] at HTE
        have HLK := Lib.hid (fun (k : Nat) (p : Value × Inp) (hp : l[k]? = some p) => show pts[k]? = some p.2.pt by rw [hpts, HINS.out, List.getElem?_map, List.getElem?_map, hp]; rfl)
        clear hpts
        go_upto_block 2 with fail
        go_cut [4, 6] from 14 (fun s4 s6 wr => ∃ A3 c3, s4 = .slice A3 n c3 ∧ s6 = .bool z1 ∧ Hid (OwnU wr (g1 + 1) A3 n c3 xs1 ∧ At wr g1 27 4 tv ∧ Below w.heap.size w wr ∧ tw = false))
        case first =>
          go_wp2_with fail
          go_loopw [4, 6, 7] (fun s4 s6 iv wr => ∃ k : Nat, ∃ A3 c3, k ≤ n ∧ iv = .int .i64 k ∧ s4 = .slice A3 k c3 ∧ s6 = .bool (((l.take k).map fun p => p.2.amount).contains 0) ∧ Hid (OwnU wr (g1 + 1) A3 k c3 (((l.take k).map fun p => p.2.amount).map (Value.int .u64)) ∧ At wr g1 27 4 tv ∧ Below w.heap.size w wr ∧ (pts.take k).Nodup)) (fun _ _ iv _ => n - (intOf iv).toNat)
          case atStart => exact ⟨0, none, 0, by omega, rfl, rfl, rfl, Lib.hid ⟨World.ownsRow_nil _ _ _ _, HX.out, HB.out, by simp⟩⟩
          case round =>
            obtain ⟨k, A3, c3, hk, rfl, rfl, rfl, hI⟩ := hrel
            clear HX HB c0
            have HR := Lib.hid hI.out.1; have HX := Lib.hid hI.out.2.1; have HB := Lib.hid hI.out.2.2.1; have HND := Lib.hid hI.out.2.2.2
            clear hI
            rename World => w_
            have c0 := HX.out.blk.at_ HT0.out
            by_cases hlt : k < n
            · obtain ⟨b, off, _, rfl, _, _, _⟩ := HI.out.at_ hlt
              obtain ⟨p, hp, hok, hc, ha⟩ := HI.out.pt_ hlt
              have HC := Lib.hid hc; have HA := Lib.hid ha; have HOK := Lib.hid hok
              have HPK := Lib.hid (HLK.out k p hp)
              have HSN := Lib.hid (am_snoc (fun q : Value × Inp => q.2.amount) hp)
              have HCS := Lib.hid (cont_snoc (fun q : Value × Inp => q.2.amount) hp)
              obtain ⟨am, ham⟩ : ∃ q, q = p.2.amount := ⟨_, rfl⟩
              obtain ⟨pk, hpk⟩ : ∃ q, q = p.2.pt := ⟨_, rfl⟩
              obtain ⟨zk, hzk⟩ : ∃ q, q = ((l.take k).map fun q => q.2.amount).contains 0 := ⟨_, rfl⟩
              obtain ⟨xs, hxs⟩ : ∃ q, q = (((l.take k).map fun q => q.2.amount).map (Value.int .u64)) := ⟨_, rfl⟩
              rw [← ham] at HA HSN HCS
              rw [← hpk] at HC HOK HPK
              rw [← hxs] at HR HSN
              rw [← hzk] at HCS ⊢
              clear hc ha hok hp ham hpk hzk hxs
              go_upto_block 4 with fail
              go_cut [] from 81 to 100 (fun wr => Hid (pk ∉ pts.take k) ∧ Hid (OwnU wr (g1 + 1) A3 k c3 xs ∧ At wr g1 27 4 tv ∧ Below w.heap.size w wr))
              case first =>
                go_wp2_with fail
                go_loopw [8] (fun jv wr => ∃ j : Nat, j ≤ k ∧ jv = .int .i64 j ∧ Hid (pk ∉ pts.take j) ∧ Hid (OwnU wr (g1 + 1) A3 k c3 xs ∧ At wr g1 27 4 tv ∧ Below w.heap.size w wr)) (fun jv _ => k - (intOf jv).toNat)
                case atStart => exact ⟨0, by omega, rfl, Lib.hid (by simp), Lib.hid ⟨HR.out, HX.out, HB.out⟩⟩
                case round =>
                  obtain ⟨j, hj, rfl, hnm, hI⟩ := hrel
                  clear HR HX HB c0
                  have HR := Lib.hid hI.out.1; have HX := Lib.hid hI.out.2.1; have HB := Lib.hid hI.out.2.2
                  clear hI
                  rename World => w_
                  have c0 := HX.out.blk.at_ HT0.out
                  by_cases hjt : j < k
                  · have hjn : j < n := by omega
                    obtain ⟨p2, hp2, hok2, hc2, _⟩ := HI.out.pt_ hjn
                    have HPJ := Lib.hid (HLK.out j p2 hp2)
                    obtain ⟨pj, hpj⟩ : ∃ q, q = p2.2.pt := ⟨_, rfl⟩
                    rw [← hpj] at hok2 hc2 HPJ
                    have HC2 := Lib.hid hc2; have HOK2 := Lib.hid hok2
                    clear hpj hc2 hok2 hp2
                    obtain ⟨r, hr, hq⟩ := pt_eq HOK2.out HOK.out
                    have HRR := Lib.hid hr
                    clear hr
                    have v1 : IntKind.i64.wrap ((j : Int) + 1) = (j : Int) + 1 := IntWalk.i64_in _ (by omega)
                    have v2 : RowKit.wrap64 ((j : Int) + 1) = (j : Int) + 1 := wrap64_in _ (by clear v1; omega)
                    try go_wp2_with fail
                    repeat' (first | (with_reducible refine wp_flow (id := 16) [0,1,0,7,15,31,0,64,0,448,960,1984,4095] [0,0,0,0,0,0,0,0,0,0,0,0,0] (fun i => match i with  | _ => spV undef) (by kernel_rfl) (by kernel_rfl) ?_) | go_values | go_skip | go_guarded | go_step | go_upon | go_back)
                    intro w_ hd_
                    have hb_ := hd_.grow
                    have HB_ := Lib.hid (HB.out.grow' hb_)
                    clear HB
                    have HB := HB_
                    clear HB_
                    have HX_ := Lib.hid (HX.out.grow hb_)
                    clear HX
                    have HX := HX_
                    clear HX_
                    have HR_ := Lib.hid (HR.out.grow hb_)
                    clear HR
                    have HR := HR_
                    clear HR_
                    clear hb_ hd_
                    show wpL _ _ _ _ _ _ _ [0,1,2,3,4,5,6,7,8,9,10,11,12] _ _
                    replace c0 := HX.out.blk.at_ HT0.out
                    have HM1 := Lib.hid (show ∀ j' u, (ptKV pj)[j']? = some u → w_.cell? ⟨b, off + j * 35 + j', none⟩ = some u from fun j' u hu => bcell HB.out (HC2.out j' u hu))
                    have HM2 := Lib.hid (show ∀ j' u, (ptKV pk)[j']? = some u → w_.cell? ⟨b, off + k * 35 + j', none⟩ = some u from fun j' u hu => bcell HB.out (HC.out j' u hu))
                    have HL1 := Lib.hid (ptKV_len HOK2.out); have HL2 := Lib.hid (ptKV_len HOK.out)
                    repeat (first | (refine fl_load rfl (by decide) (by first | exact wanted_none rfl | (go_simp; done) | fail) rfl (by first | rfl | (go_simp; rfl)) (by kernel_rfl) (by first | exact c0) (fun K hK => ?_); go_simp; refine hK _ ?_; clear hK K) | (refine fl_skip rfl (by first | (go_simp; done) | fail) (fun K hK => ?_); go_simp; refine hK _ ?_; clear hK K) | (refine fl_calm rfl (by decide) (by first | exact wanted_none rfl | (go_simp; done) | fail) (fun w_ _ _ => by first | (go_simp; rfl) | (go_simp; done) | rfl) (fun K hK => ?_); go_simp; refine hK _ ?_; clear hK K))
                    refine fl_loadm rfl (by decide) (by first | exact wanted_none rfl | (go_simp; done) | fail) rfl row_point HM1.out (by first | rfl | (go_simp; done) | rfl) HL1.out (fun K hK => ?_)
                    go_simp
                    refine hK _ ?_
                    clear hK K
                    repeat (first | (refine fl_load rfl (by decide) (by first | exact wanted_none rfl | (go_simp; done) | fail) rfl (by first | rfl | (go_simp; rfl)) (by kernel_rfl) (by first | exact c0) (fun K hK => ?_); go_simp; refine hK _ ?_; clear hK K) | (refine fl_skip rfl (by first | (go_simp; done) | fail) (fun K hK => ?_); go_simp; refine hK _ ?_; clear hK K) | (refine fl_calm rfl (by decide) (by first | exact wanted_none rfl | (go_simp; done) | fail) (fun w_ _ _ => by first | (go_simp; rfl) | (go_simp; done) | rfl) (fun K hK => ?_); go_simp; refine hK _ ?_; clear hK K))
                    refine fl_loadm rfl (by decide) (by first | exact wanted_none rfl | (go_simp; done) | fail) rfl row_point HM2.out (by first | rfl | (go_simp; done) | rfl) HL2.out (fun K hK => ?_)
                    go_simp
                    refine hK _ ?_
                    clear hK K
                    repeat (first | (refine fl_load rfl (by decide) (by first | exact wanted_none rfl | (go_simp; done) | fail) rfl (by first | rfl | (go_simp; rfl)) (by kernel_rfl) (by first | exact c0) (fun K hK => ?_); go_simp; refine hK _ ?_; clear hK K) | (refine fl_skip rfl (by first | (go_simp; done) | fail) (fun K hK => ?_); go_simp; refine hK _ ?_; clear hK K) | (refine fl_calm rfl (by decide) (by first | exact wanted_none rfl | (go_simp; done) | fail) (fun w_ _ _ => by first | (go_simp; rfl) | (go_simp; done) | rfl) (fun K hK => ?_); go_simp; refine hK _ ?_; clear hK K))
                    refine fl_done ?_
                    intro w2_ hg_ hL_
                    replace HB := Lib.hid (HB.out.grow' hg_)
                    replace HX := Lib.hid (HX.out.grow hg_)
                    replace HR := Lib.hid (HR.out.grow hg_)
                    clear hg_ hL_
                    try clear w_
                    rename World => w_
                    clear HM1 HM2 hq c0
                    cases r with
                    | true =>
                      have HCE := Lib.hid (show ck = 7 by
                        have h1 : pts[j]? = some pk := by rw [← HRR.out.1 rfl]; exact HPJ.out
                        have h2 : tw = true := by rw [HTE.out, not_nodup h1 HPK.out hjt]; rfl
                        rw [HCK.out, hlf.out, h2]; rfl)
                      clear v1 v2
                      go_wp2_with fail
                      go_ret
                      exact ⟨by rw [HCE.out]; rfl, HB.out⟩
                    | false =>
                      have HNN := Lib.hid (mem_snoc HPJ.out hnm.out (fun e => by have := HRR.out.2 e; cases this))
                      go_wp2_with fail
                      go_roundw
                      all_goals clear v1 v2
                      case rel => exact ⟨j + 1, by omega, by go_num, HNN, Lib.hid ⟨HR.out, HX.out, HB.out⟩⟩
                      case measure => simp [intOf]; omega
                  · obtain rfl : j = k := by omega
                    go_wp2_with fail
                    go_meet
                    case rel => exact ⟨hnm, Lib.hid ⟨HR.out, HX.out, HB.out⟩⟩
              case rest =>
                obtain ⟨hnm, hI⟩ := hcut
                clear HR HX HB c0
                have HR := Lib.hid hI.out.1; have HX := Lib.hid hI.out.2.1; have HB := Lib.hid hI.out.2.2
                clear hI
                try clear w_
                rename World => w_
                have HNK := Lib.hid (nodup_snoc HPK.out HND.out hnm.out)
                have c0 := HX.out.blk.at_ HT0.out
                have c33 := bcell HB.out HA.out
                have HGZ := Lib.hid (show g1 + 1 ≤ w_.heap.size by have := HX.out.lt; omega)
                have HR3 := Lib.hid (show w_.ownsRow (g1 + 1) 25 1 (.slice A3 k c3) k xs from HR.out)
                go_wp2_with (first | (at_builtin; refine wpl_app1 rfl rfl el_us HR3.out rfl (m := 1) rfl ?_ ?_ ?_ ?_ ?_ ?_))
                · rfl
                · rfl
                · omega
                · have := HN16.out; omega
                · exact HGZ.out
                intro A4 c4 w4_ ho_ hg_ hA_
                have hne_ := own_from HR3.out
                have HX_ := Lib.hid (show At w4_ g1 27 4 tv from at_mk (HX.out.blk.grown hg_ (fun h => by have := hne_ _ h.symm; omega)) HX.out.len)
                have HB_ := Lib.hid (below_grown HB.out hg_ HB.out.size (fun x hx => by have := hne_ _ hx; have := HX_g.out; omega))
                have HR_ := Lib.hid (show OwnU w4_ (g1 + 1) A4 (k + 1) c4 (((l.take (k + 1)).map fun p => p.2.amount).map (Value.int .u64)) by rw [HSN.out]; exact ho_)
                clear ho_ hg_ hA_ hne_ HX HB HR HR3 c0 c33
                have c0 := HX_.out.blk.at_ HT0.out
                have c33 := bcell HB_.out HA.out
                obtain ⟨qz, hqz⟩ : ∃ q, (am == 0) = q := ⟨_, rfl⟩
                have hqd : decide (am = 0) = qz := by rw [← hqz]; rfl
                rw [hqz] at HCS
                have v1 : IntKind.i64.wrap ((k : Int) + 1) = (k : Int) + 1 := IntWalk.i64_in _ (by have := HN16.out; omega)
                have v2 : RowKit.wrap64 ((k : Int) + 1) = (k : Int) + 1 := wrap64_in _ (by clear v1; have := HN16.out; omega)
                have HREL := Lib.hid (show OwnU w4_ (g1 + 1) A4 (k + 1) c4 (((l.take (k + 1)).map fun p => p.2.amount).map (Value.int .u64)) ∧ At w4_ g1 27 4 tv ∧ Below w.heap.size w w4_ ∧ (pts.take (k + 1)).Nodup from ⟨HR_.out, HX_.out, HB_.out, HNK.out⟩)
                have HKN := Lib.hid (show k + 1 ≤ n by clear v1 v2 hqd; omega)
                have HMS := Lib.hid (show ∀ q : Nat, q = k + 1 → n - q < n - k by clear v1 v2 hqd; intro q hq; omega)
                obtain ⟨zn, hzn⟩ : ∃ q, q = ((l.take (k + 1)).map fun q => q.2.amount).contains 0 := ⟨_, rfl⟩
                have HZN := Lib.hid hzn
                rw [← hzn] at HCS
                have HQZ := Lib.hid hqz
                clear hzn hqz
                cases zk with
                | true =>
                  have HZ1 := Lib.hid (show zn = true by rw [HCS.out]; rfl)
                  clear hqd HCS
                  go_wp2_with fail
                  go_roundw
                  all_goals clear v1 v2
                  case rel => exact ⟨k + 1, A4, c4, HKN.out, by go_num, rfl, by rw [← HZN.out, HZ1.out], HREL⟩
                  case measure => simp [intOf]; omega
                | false =>
                  have HZ1 := Lib.hid (show zn = qz by rw [HCS.out]; rfl)
                  clear HCS
                  go_wp2_with fail
                  go_roundw
                  all_goals clear v1 v2
                  case rel => exact ⟨k + 1, A4, c4, HKN.out, by go_num, rfl, by rw [← HZN.out, HZ1.out, ← HQZ.out], HREL⟩
                  case measure => simp [intOf]; omega
            · obtain rfl : k = n := by omega
              have HLE := Lib.hid HI.out.2.2.1
              have HRN := Lib.hid (show OwnU w_ (g1 + 1) A3 k c3 xs1 by have h := HR.out; rw [List.take_of_length_le (by have := HLE.out; omega)] at h; rw [HX1.out]; exact h)
              have HTF := Lib.hid (show tw = false by
                have h := HND.out
                rw [List.take_of_length_le (by rw [HPTS.out, List.length_map, HINL.out]; exact Nat.le_refl _)] at h
                rw [HTE.out, decide_eq_true h]; rfl)
              have HZN := Lib.hid (show ((l.take k).map fun p => p.2.amount).contains 0 = z1 by rw [List.take_of_length_le (by have := HLE.out; omega), HZ1.out]; rfl)
              go_wp2_with fail
              go_meet
              case rel => exact ⟨A3, c3, rfl, by rw [HZN.out], Lib.hid ⟨HRN.out, HX.out, HB.out, HTF.out⟩⟩
        case rest =>
          obtain ⟨A3_, c3_, rfl, rfl, hI⟩ := hcut
          clear HX HB c0
          have HU := Lib.hid hI.out.1; have HX := Lib.hid hI.out.2.1; have HB := Lib.hid hI.out.2.2.1; have HTF := Lib.hid hI.out.2.2.2
          clear hI
          try clear w_
          rename World => w_
          have c1 := HX.out.blk.at_ HT1.out
          obtain ⟨gs, hgs⟩ : ∃ q, q = w_.heap.size := ⟨_, rfl⟩
          have HG1 := Lib.hid (show g1 + 1 ≤ gs ∧ w.heap.size ≤ gs by have h1 := HX.out.lt; have h2 := HB.out.size; omega)
          have HUL := Lib.hid (show ∀ q, A3_.map Addr.block = some q → q < gs from fun q hq => by rw [hgs]; exact own_lt HU.out q hq)
          have HGS := Lib.hid (show gs ≤ w_.heap.size by omega)
          have HNN := Lib.hid HN16.out.2
          clear hgs
          go_wp2_with fail
          go_loopw [5, 6, 9] (fun s5 s6 iv wr => ∃ k : Nat, ∃ A3 c3, ∃ zb : Bool, k ≤ n2 ∧ iv = .int .i64 k ∧ s5 = .slice A3 k c3 ∧ s6 = .bool zb ∧ Hid (zb = (z1 || (((os.take k).map Outp.amount).contains 0)) ∧ OwnU wr gs A3 k c3 (((os.take k).map Outp.amount).map (Value.int .u64)) ∧ At wr g1 27 4 tv ∧ Below w.heap.size w wr ∧ OwnU wr (g1 + 1) A3_ n c3_ xs1 ∧ gs ≤ wr.heap.size)) (fun _ _ iv _ => n2 - (intOf iv).toNat)
          case atStart => exact ⟨0, none, 0, z1, by omega, rfl, rfl, rfl, Lib.hid ⟨by simp, World.ownsRow_nil _ _ _ _, HX.out, HB.out, HU.out, HGS.out⟩⟩
          case round =>
            obtain ⟨k, A3, c3, zb, hk, rfl, rfl, rfl, hI⟩ := hrel
            clear HX HB c1 HU HGS
            have HZB := Lib.hid hI.out.1; have HR := Lib.hid hI.out.2.1; have HX := Lib.hid hI.out.2.2.1; have HB := Lib.hid hI.out.2.2.2.1; have HU := Lib.hid hI.out.2.2.2.2.1; have HGS := Lib.hid hI.out.2.2.2.2.2
            clear hI
            rename World => w_
            have c1 := HX.out.blk.at_ HT1.out
            by_cases hlt : k < n2
            · obtain ⟨b, off, p, rfl, hp, hok, hc⟩ := HO.out.at_ hlt
              have hw33 := hc 32 _ (out_at hok)
              have c33 := bcell HB.out hw33
              have HSN := Lib.hid (am_snoc Outp.amount hp)
              have HCS := Lib.hid (cont_snoc Outp.amount hp)
              obtain ⟨am, ham⟩ : ∃ q, q = p.amount := ⟨_, rfl⟩
              rw [← ham] at HSN HCS c33 hw33
              obtain ⟨xs, hxs⟩ : ∃ q, q = (((os.take k).map Outp.amount).map (Value.int .u64)) := ⟨_, rfl⟩
              rw [← hxs] at HR HSN
              obtain ⟨zk, hzk⟩ : ∃ q, q = ((os.take k).map Outp.amount).contains 0 := ⟨_, rfl⟩
              rw [← hzk] at HCS HZB
              have HW33 := Lib.hid hw33
              clear hp hok hc ham hxs hzk hw33
              have HR3 := Lib.hid (show w_.ownsRow gs 25 1 (.slice A3 k c3) k xs from HR.out)
              have HGZ := Lib.hid (show gs ≤ w_.heap.size from HGS.out)
              go_wp2_with (first | (at_builtin; refine wpl_app1 rfl rfl el_us HR3.out rfl (m := 1) rfl ?_ ?_ ?_ ?_ ?_ ?_))
              · rfl
              · rfl
              · have := HNN.out; omega
              · have := HNN.out; omega
              · exact HGZ.out
              intro A4 c4 w4_ ho_ hg_ hA_
              have hne_ := own_from HR3.out
              have HX_ := Lib.hid (show At w4_ g1 27 4 tv from at_mk (HX.out.blk.grown hg_ (fun h => by have := hne_ _ h.symm; have := HG1.out; omega)) HX.out.len)
              have HB_ := Lib.hid (below_grown HB.out hg_ HB.out.size (fun x hx => by have := hne_ _ hx; have := HG1.out; omega))
              have HR_ := Lib.hid (show OwnU w4_ gs A4 (k + 1) c4 ((((os.take (k + 1)).map Outp.amount)).map (Value.int .u64)) by rw [HSN.out]; exact ho_)
              have HU_ := Lib.hid (show OwnU w4_ (g1 + 1) A3_ n c3_ xs1 from own_kept HU.out hg_ (fun q hq he => by have h1 := hne_ _ he.symm; have h2 := HUL.out q (by rw [hq]; rfl); omega))
              have HSZ_ := Lib.hid (show gs ≤ w4_.heap.size from Nat.le_trans HGZ.out hg_.size)
              clear ho_ hg_ hA_ hne_ HX HB HR HR3 HU HGS HGZ c1 c33
              have c1 := HX_.out.blk.at_ HT1.out
              have c33 := bcell HB_.out HW33.out
              have HKN := Lib.hid (show k + 1 ≤ n2 by omega)
              have HREL := Lib.hid (show OwnU w4_ gs A4 (k + 1) c4 (((os.take (k + 1)).map Outp.amount).map (Value.int .u64)) ∧ At w4_ g1 27 4 tv ∧ Below w.heap.size w w4_ ∧ OwnU w4_ (g1 + 1) A3_ n c3_ xs1 ∧ gs ≤ w4_.heap.size from ⟨HR_.out, HX_.out, HB_.out, HU_.out, HSZ_.out⟩)
              have v1 : IntKind.i64.wrap ((k : Int) + 1) = (k : Int) + 1 := IntWalk.i64_in _ (by have := HNN.out; omega)
              have v2 : RowKit.wrap64 ((k : Int) + 1) = (k : Int) + 1 := wrap64_in _ (by clear v1; have := HNN.out; omega)
              cases zb with
              | true =>
                have HZ1' := Lib.hid (show true = (z1 || (((os.take (k + 1)).map Outp.amount).contains 0)) by rw [HCS.out, ← Bool.or_assoc, ← HZB.out]; rfl)
                go_wp2_with fail
                go_roundw
                all_goals clear v1 v2
                case rel => exact ⟨k + 1, A4, c4, true, HKN.out, by go_num, rfl, rfl, Lib.hid ⟨HZ1'.out, HREL.out⟩⟩
                case measure => simp [intOf]; omega
              | false =>
                obtain ⟨qz, hqz⟩ : ∃ q, (am == 0) = q := ⟨_, rfl⟩
                have HZ1' := Lib.hid (show qz = (z1 || (((os.take (k + 1)).map Outp.amount).contains 0)) by rw [HCS.out, ← Bool.or_assoc, ← HZB.out, hqz]; rfl)
                go_wp2_with fail
                go_roundw
                all_goals clear v1 v2
                case rel => exact ⟨k + 1, A4, c4, qz, HKN.out, by go_num, rfl, by first | rfl | rw [hqz], Lib.hid ⟨HZ1'.out, HREL.out⟩⟩
                case measure => simp [intOf]; omega
            · obtain rfl : k = n2 := by omega
              have HLE2 := Lib.hid HO.out.2.2.1
              have HRN := Lib.hid (show OwnU w_ gs A3 k c3 xs2 by have h := HR.out; rw [List.take_of_length_le (by have := HLE2.out; omega)] at h; rw [HX2.out]; exact h)
              have HZN := Lib.hid (show zb = (z1 || z2) by rw [HZB.out, List.take_of_length_le (by have := HLE2.out; omega), HZ2.out]; rfl)
              have HCK2 := Lib.hid (show ck = if zb = true then 8 else if r1 ≠ 0 then r1 else if r2 ≠ 0 then r2 else if s1 ≠ s2 then 9 else 0 by rw [HCK.out, hlf.out, HTF.out, HZN.out, if_neg (by simp), if_neg (by simp)])
              cases zb with
              | true =>
                have HC0 := Lib.hid (show ck = 8 by rw [HCK2.out]; rfl)
                go_wp2_with fail
                go_ret
                exact ⟨by rw [HC0.out]; rfl, HB.out⟩
              | false =>
                have HC0 := Lib.hid (show ck = if r1 ≠ 0 then r1 else if r2 ≠ 0 then r2 else if s1 ≠ s2 then 9 else 0 by rw [HCK2.out, if_neg (by simp)])
                have HSU := Lib.hid (show SzG w_ gs from HGS.out)
                clear HGS HR
                go_wp2_with fail
                refine (HA1.out _ _ _ HU.out.sl).mono ?_
                clear HU c1
                rintro e w_ ⟨rfl, hb_⟩
                have HB_ := Lib.hid (HB.out.grow' hb_)
                clear HB
                have HB := HB_
                clear HB_
                have HX_ := Lib.hid (HX.out.grow hb_)
                clear HX
                have HX := HX_
                clear HX_
                have HRN_ := Lib.hid (HRN.out.grow hb_)
                clear HRN
                have HRN := HRN_
                clear HRN_
                have HSU_ := Lib.hid (HSU.out.grow hb_)
                clear HSU
                have HSU := HSU_
                clear HSU_
                clear hb_
                by_cases h1 : r1 = 0
                · have HC3 := Lib.hid (show ck = if r2 ≠ 0 then r2 else if s1 ≠ s2 then 9 else 0 by rw [HC0.out]; simp [h1])
                  subst h1
                  have c2 := HX.out.blk.at_ HT2.out
                  have HSZ := Lib.hid (show gs ≤ w_.heap.size from HSU.out)
                  have HR3 := Lib.hid (show w_.ownsRow gs 25 1 (.slice A3 k c3) k xs2 from HRN.out)
                  go_wp2_with (first | (at_builtin; refine wpl_app1 rfl rfl el_us HR3.out rfl (m := 1) rfl ?_ ?_ ?_ ?_ ?_ ?_))
                  · rfl
                  · rfl
                  · have := HNN.out; omega
                  · have := HNN.out; omega
                  · exact HSZ.out
                  intro A5 c5 w4_ ho_ hg_ hA_
                  have hne_ := own_from HR3.out
                  have HB_ := Lib.hid (below_grown HB.out hg_ HB.out.size (fun x hx => by have := hne_ _ hx; have := HG1.out; omega))
                  have HS5 := Lib.hid (show Sl w4_ w4_.heap.size 1 A5 (k + 1) xs3 by rw [HZ.out]; exact Sl.of_own ho_)
                  clear ho_ hg_ hA_ hne_ HB HR3 HRN HX c2
                  go_wp2_with fail
                  refine (HA2.out _ _ _ HS5.out).mono ?_
                  rintro e w5_ ⟨rfl, hb_⟩
                  have HB := Lib.hid (HB_.out.grow' hb_)
                  clear hb_ HB_ HS5
                  by_cases h2 : r2 = 0
                  · have HC4 := Lib.hid (show ck = if s1 ≠ s2 then 9 else 0 by rw [HC3.out]; simp [h2])
                    subst h2
                    by_cases h3 : s1 = s2
                    · have d3 : (s1 != s2) = false := by simpa using h3
                      have HC5 := Lib.hid (show ck = 0 by rw [HC4.out]; simp [h3])
                      clear h3
                      go_wp2_with fail
                      go_ret
                      exact ⟨by rw [HC5.out]; rfl, HB.out⟩
                    · have d3 : (s1 != s2) = true := by simpa using h3
                      have HC5 := Lib.hid (show ck = 9 by rw [HC4.out]; simp [h3])
                      clear h3
                      go_wp2_with fail
                      go_ret
                      exact ⟨by rw [HC5.out]; rfl, HB.out⟩
                  · have d2 : (r2 != 0) = true := by simpa using h2
                    have HC4 := Lib.hid (show ck = r2 by rw [HC3.out]; simp [h2])
                    clear h2
                    go_wp2_with fail
                    go_ret
                    exact ⟨by rw [HC4.out]; rfl, HB.out⟩
                · have d1 : (r1 != 0) = true := by simpa using h1
                  have HC3 := Lib.hid (show ck = r1 by rw [HC0.out]; simp [h1])
                  clear h1
                  go_wp2_with fail
                  go_ret
                  exact ⟨by rw [HC3.out]; rfl, HB.out⟩
end Go.Proofs.YtnnjjbkdjkjnpaaGreatDoor
/- The contract of field.Pen.Text. -/
namespace Go.Proofs.YtnnjjbkdjkjnpaaGreatDoor
open Go.RowKit Go.Shelf
set_option linter.unusedVariables false
set_option maxRecDepth 100000 in
set_option maxHeartbeats 2000000 in
theorem ptext_any (g : Nat) (K : Nat → Prop) (xs : List UInt8) {A : Option Addr} {n c Bd : Nat} {bs : List UInt8} (w : World) (h : PenAt w K g xs) (hs : Sl w Bd 1 A n (bs.map B)) (hbd : ∀ k, k < Bd → K k) (hl : xs.length + n ≤ 900000) :
    Calls Tryz.prog 103 #[.pointer (some ⟨g, 0, none⟩), .slice A n c] w fun e w' => e = .returned (.tuple #[]) ∧ PenAt w' K g (xs ++ (numB n ++ bs)) ∧ Kept K w w' := by
  have HP := Lib.hid h
  have HS := Lib.hid hs
  have HBD := Lib.hid hbd
  have hbn : bs.length = n := by have := hs.len; simpa using this
  have HBN := Lib.hid hbn
  have HU := Lib.hid (numB_le (n := n) (by omega))
  have q1 := conv_u64' (n := n) (by omega)
  clear h hs hbd hbn
  go_enter Tryz.func103, Tryz.ntmps103
  go_wp2_with fail
  refine (num_any g n K xs _ HP.out (by omega) (by omega)).mono ?_
  rintro e w2_ ⟨rfl, hp_, hk_⟩
  have HK := Lib.hid hk_
  have HS2 := Lib.hid (HS.out.below (hk_.below HBD.out))
  obtain ⟨ys, hys⟩ : ∃ ys, ys = xs ++ numB n := ⟨_, rfl⟩
  have HYE := Lib.hid (show ys ++ bs = xs ++ (numB n ++ bs) by rw [hys, List.append_assoc])
  have HYL := Lib.hid (show ys.length ≤ xs.length + 9 by rw [hys, List.length_append]; have := HU.out; omega)
  rw [← hys] at hp_
  obtain ⟨Ap, cp, hq1, hq2, hq3, hq4⟩ := hp_
  have HPB := Lib.hid hq1
  have HPO := Lib.hid hq2
  have HPK := Lib.hid hq3
  have HPN := Lib.hid hq4
  have hcl := hq1.at_ (i := 0) rfl
  have hyl := HYL.out
  have HONE := Lib.hid (all_bytes bs)
  clear hk_ hq1 hq2 hq3 hq4 HS HP q1 hys
  go_wp2_with (first | (at_builtin; refine wpl_apps rfl rfl el_u8 HPO.out rfl HS2.out rfl HONE.out (by omega) (by omega) (Nat.zero_le _) ?_))
  intro A3 c3 w3_ ho_ hg_ hA_
  have hll : (ys ++ bs).length = ys.length + n := by rw [List.length_append, HBN.out]
  have HPB3 := Lib.hid (HPB.out.grown hg_ (fun e => (HPN.out e.symm).elim))
  have HAP := Lib.hid (pen_app (ys := ys ++ bs) (A' := A3) (c' := c3) HPB.out HPO.out HPK.out HPN.out (by rw [hll, List.map_append]; exact ho_) hg_ (fun b hb => hA_.elim (fun h => .inl (h.symm.trans hb)) (fun h => .inr (by obtain ⟨a, h1, h2⟩ := h; subst h1; have h3 : a.block = b := Option.some.inj hb; omega))))
  rw [hll] at HAP
  clear ho_ hg_ hA_ hcl hll
  have hcl := HPB3.out.at_ (i := 0) rfl
  have hfz := HPB3.out.frozen 0
  go_wp2_with fail
  refine bodyPost_end (results_none rfl _ _ _) rfl ?_
  exact ⟨rfl, by rw [← HYE.out]; exact HAP.out.1, HK.out.trans HAP.out.2⟩
end Go.Proofs.YtnnjjbkdjkjnpaaGreatDoor
/- The contract of tx.Put. -/
namespace Go.Proofs.YtnnjjbkdjkjnpaaGreatDoor
open Go.RowKit Go.Shelf
set_option linter.unusedVariables false
def Kq (gp q : Nat) : Nat → Prop := fun k => k < gp ∨ k = q
def K0 (gp : Nat) : Nat → Prop := fun k => k < gp
def KB (gp : Nat) (w4 w : World) : Prop := Below gp w4 w ∧ gp ≤ w4.heap.size
theorem KB.sz {gp : Nat} {w4 w : World} (h : KB gp w4 w) : gp ≤ w.heap.size := Nat.le_trans h.2 h.1.size
theorem KB.grow {gp : Nat} {w4 w w2 : World} (h : KB gp w4 w) (k : Grow w w2) : KB gp w4 w2 := ⟨h.1.trans (k.mono h.sz), h.2⟩
theorem KB.kept {gp q : Nat} {w4 w w2 : World} (h : KB gp w4 w) (k : Kept (Kq gp q) w w2) : KB gp w4 w2 := ⟨h.1.trans (k.below (fun j hj => .inl hj)), h.2⟩
theorem PenAt.plus {w : World} {gp g q : Nat} {xs : List UInt8} {T : TypeId} {cs : List Value} (h : PenAt w (K0 gp) g xs) (hb : Blk w q T cs) (hT : T ≠ 5) (hq : q ≠ g) : PenAt w (Kq gp q) g xs := by
  obtain ⟨A, c, h1, h2, h3, h4⟩ := h
  refine ⟨A, c, h1, h2, fun k hk => ?_, h4⟩
  rcases hk with hk | rfl
  · exact h3 k hk
  · refine ⟨hb.lt, hq, fun e => ?_⟩
    rcases h2.2 with ⟨hv, _⟩ | ⟨b, cap, cur, hv, _, hh, _⟩
    · injection hv with hA; subst hA; cases e
    · injection hv with hA; subst hA
      have e2 : b = k := Option.some.inj e
      subst e2
      unfold Blk at hb
      rw [hb] at hh
      injection hh with hh
      injection hh with _ hh
      exact hT hh
theorem PenAt.minus {w : World} {gp g q : Nat} {xs : List UInt8} (h : PenAt w (Kq gp q) g xs) : PenAt w (K0 gp) g xs := h.less (fun k hk => .inl hk)
theorem At.kept {w w2 : World} {gp q n : Nat} {T : TypeId} {cs : List Value} (h : At w q T n cs) (k : Kept (Kq gp q) w w2) : At w2 q T n cs := ⟨k.blk h.1 (.inr rfl), h.2⟩
theorem putI_len {i : Inp} (h : i.ok) (h2 : i.secret.length ≤ 64) (h3 : 0 ≤ i.index ∧ i.index ≤ 15) : (putI i).length ≤ 130 := by
  unfold putI
  simp only [List.length_append]
  have a := numB_le (n := i.index.toNat) (by omega)
  have b := numB_le (n := i.amount.toNat) (by have := h.2.2; unfold U64 at this; omega)
  have c := numB_le (n := i.secret.length) (by omega)
  have d := h.1
  omega
theorem putO_len {o : Outp} (h : o.ok) : (putO o).length ≤ 50 := by
  unfold putO
  simp only [List.length_append]
  have b := numB_le (n := o.amount.toNat) (by have := h.2; unfold U64 at this; omega)
  have d := h.1
  omega
theorem fm_len {α : Type} (f : α → List UInt8) (m : Nat) : ∀ (l : List α), (∀ x ∈ l, (f x).length ≤ m) → (l.flatMap f).length ≤ l.length * m
  | [], _ => by simp
  | x :: l, h => by
    rw [List.flatMap_cons, List.length_append, List.length_cons, Nat.succ_mul]
    have h1 := h x (List.mem_cons_self ..)
    have h2 := fm_len f m l (fun y hy => h y (List.mem_cons_of_mem _ hy))
    omega
theorem fm_snoc {α : Type} (f : α → List UInt8) {l : List α} {k : Nat} {p : α} (h : l[k]? = some p) : (l.take (k + 1)).flatMap f = (l.take k).flatMap f ++ f p := by
  rw [take_snoc h]; simp
theorem fm_le {α : Type} (f : α → List UInt8) (m : Nat) {l : List α} (k : Nat) (h : ∀ x ∈ l, (f x).length ≤ m) : ((l.take k).flatMap f).length ≤ k * m := by
  have := fm_len f m (l.take k) (fun x hx => h x (List.mem_of_mem_take hx))
  have h2 : (l.take k).length ≤ k := by rw [List.length_take]; omega
  exact Nat.le_trans this (Nat.mul_le_mul_right m h2)
end Go.Proofs.YtnnjjbkdjkjnpaaGreatDoor

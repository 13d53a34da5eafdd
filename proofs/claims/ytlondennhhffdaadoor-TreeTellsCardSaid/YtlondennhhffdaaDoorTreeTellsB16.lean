/- The given card TreeTellsCardSaid, out of the walk treeTells_walk: for every input the law returns true, and each argument reads as it did; the tables of package sha are tied to the program's text. No condition. -/
import Derived.Test.YtlondennhhffdaaDoorTreeTellsB12
import Derived.Test.YtlondennhhffdaaDoorTreeTellsB6
import Derived.Test.YtlondennhhffdaaDoorTreeTellsB15
import Derived.Test.YtlondennhhffdaaDoorTreeTellsB2
import Derived.ShutString
import Derived.ChangeOld
import Derived.Below
/- Arguments opened: bytes, lists of bytes, lists of digests. -/
namespace Go.Proofs.YtlondennhhffdaaDoor
open Go.RowKit Go.ChangeShapes Go.WideShapes
set_option linter.unusedVariables false
section
variable {H : Type} {enc : TypeId × Value → H} {w : World} {r : Reach} {b0 base : Nat} {spare : Nat → Bool} {held : Bool}
theorem open_b {v : Value} {d : DataW H} {ps : List MemPlace} (hval : Value.okWide Tryd.prog w r b0 22 v) (h : DataW.Trod enc Tryd.prog w base spare held 22 v d ps) :
    ∃ A n c, ∃ bs : List UInt8, v = .slice A n c ∧ Sl w w.heap.size 1 A n (bs.map B) ∧ n ≤ c ∧ c ≤ maxLen := open_u8s Tryd.underlying22 Tryd.underlying5 (by kernel_rfl) hval h
/-- A list of lists of bytes that came in. -/
theorem open_bb {v : Value} {d : DataW H} {ps : List MemPlace} (hval : Value.okWide Tryd.prog w r b0 37 v) (h : DataW.Trod enc Tryd.prog w base spare held 37 v d ps) :
    ∃ A n c, ∃ l : List (Value × List UInt8), v = .slice A n c ∧ Parts w w.heap.size A n l ∧ n ≤ c ∧ c ≤ maxLen := by
  obtain ⟨A, n, c, l, h1, h2, h3, h4, h5, h6, _⟩ := open_list (fun x : Value × List UInt8 => [x.1]) (fun p => ∃ A c, p.1 = .slice A p.2.length c ∧ p.2.length ≤ c ∧ Sl w w.heap.size 1 A p.2.length (p.2.map B)) Tryd.underlying37 (by kernel_rfl) (show 0 < 1 by omega) (fun fuel cs y hl ht => by
    obtain ⟨A', n', c', bs, e, hs, hn, _, hbl⟩ := open_u8s0 Tryd.underlying22 Tryd.underlying5 (by kernel_rfl) ht
    exact ⟨(.slice A' n' c', bs), e, A', c', by rw [hbl], by rw [hbl]; exact hn, by rw [hbl]; exact hs⟩) hval h
  exact ⟨A, n, c, l, h1, ⟨by rw [← flat_one]; exact h5, h6⟩, h3, h4⟩
end
end Go.Proofs.YtlondennhhffdaaDoor

/- Arguments opened: digests, lists of digests. -/
namespace Go.Proofs.YtlondennhhffdaaDoor
open Go.RowKit Go.ChangeShapes Go.WideShapes
set_option linter.unusedVariables false
section
variable {H : Type} {enc : TypeId × Value → H} {w : World} {r : Reach} {b0 base : Nat} {spare : Nat → Bool} {held : Bool}
theorem open_dig {v : Value} {d : DataW H} {ps : List MemPlace} (hval : Value.okWide Tryd.prog w r b0 26 v) (h : DataW.Trod enc Tryd.prog w base spare held 26 v d ps) :
    ∃ ds : List UInt8, v = .agg (ds.map B).toArray ∧ ds.length = 32 :=
  open_arr32 Tryd.underlying26 Tryd.underlying5 (by kernel_rfl) (by kernel_rfl) hval h
theorem open_digs {v : Value} {d : DataW H} {ps : List MemPlace} (hval : Value.okWide Tryd.prog w r b0 57 v) (h : DataW.Trod enc Tryd.prog w base spare held 57 v d ps) :
    ∃ A n c, ∃ l : List (List UInt8), v = .slice A n c ∧ Sl w w.heap.size 32 A n (l.flatMap (·.map B)) ∧ l.length = n ∧ (∀ x ∈ l, x.length = 32) ∧ n ≤ c ∧ c ≤ maxLen := by
  obtain ⟨A, n, c, l, h1, h2, h3, h4, h5, h6, _⟩ := open_list (fun x : List UInt8 => x.map B) (fun x => x.length = 32) Tryd.underlying57 (by kernel_rfl) (show 0 < 32 by omega) (fun fuel cs y _ h => trod_bytes Tryd.underlying26 Tryd.underlying5 (by kernel_rfl) (by kernel_rfl) h) hval h
  exact ⟨A, n, c, l, h1, h5, h2, h6, h3, h4⟩
end
end Go.Proofs.YtlondennhhffdaaDoor

/- The walk of seisinlaw05.TreeTells. -/
namespace Go.Proofs.YtlondennhhffdaaDoor
open Go.RowKit Go.Shelf
set_option linter.unusedVariables false
set_option maxRecDepth 100000 in
set_option maxHeartbeats 1000000 in
theorem treeTells_any (A : Option Addr) (n c : Nat) (ps : List (Value × List UInt8)) (i : Int) (w : World) (hp : Parts w w.heap.size A n ps) (hc : n ≤ c) (ht : Tabs w) :
    Calls Tryd.prog 12 #[.slice A n c, .int .i64 i] w fun e w' => e = .returned (.bool true) ∧ Below w.heap.size w w' := by
  have HT := Lib.hid ht; have HP := Lib.hid hp
  have HB := Lib.hid (Below.refl w.heap.size w)
  have HN := Lib.hid hp.len
  clear ht hp
  obtain ⟨xs, hxs⟩ := dig_root (ps.map Prod.snd)
  have HX := Lib.hid hxs
  have heq := fun w => HX.out.self w
  clear hxs
  obtain ⟨ds, hds⟩ : ∃ ds, pathI (ps.map Prod.snd) i = ds := ⟨_, rfl⟩
  have HDS := Lib.hid hds
  have HDL := Lib.hid (show ds.length ≤ n by have h := pathI_le (ps.map Prod.snd) i; rw [hds, List.length_map, HN.out] at h; exact h)
  have HD32 := Lib.hid (show ∀ d ∈ ds, d.length = 32 by rw [← hds]; exact pathI_32 _ _)
  clear hds
  go_enter Tryd.func12, Tryd.ntmps12
  go_wp2_with fail
  refine (great_any _ _ _ ps _ HP.out).mono ?_
  rintro e w_ ⟨g, rfl, hg, hb_⟩
  have HGR := Lib.hid hg
  clear hg
  have HB_ := Lib.hid (HB.out.grow' hb_)
  have HT_ := Lib.hid (HT.out.grow hb_)
  have HP_ := Lib.hid (HP.out.grow hb_)
  clear HB HT HP hb_
  have HB := HB_
  have HT := HT_
  have HP := HP_
  clear HB_ HT_ HP_
  cases g with
  | true =>
    go_wp2_with fail
    refine (awake5_any _ HT.out).mono ?_
    rintro e w_ ⟨rfl, hb_⟩
    have HB_ := Lib.hid (HB.out.grow' hb_)
    clear HB
    have HB := HB_
    clear HB_
    clear hb_
    go_wp2_with fail
    go_ret
    exact ⟨rfl, HB.out⟩
  | false =>
    obtain ⟨h40, hl60⟩ := HGR.out rfl
    have HL := Lib.hid (fun p hp => Nat.le_trans (hl60 p hp) (show 60 ≤ 1000000 by omega))
    have hdl : ds.length ≤ 1000000 := by have := HDL.out; omega
    clear hl60 HGR
    go_wp2_with fail
    refine (root_any n n c A ps xs _ (Nat.le_refl _) HX.out HP.out hc (by omega) HL.out HT.out).mono ?_
    rintro e w_ ⟨rfl, hb_⟩
    have HB_ := Lib.hid (HB.out.grow' hb_)
    clear HB
    have HB := HB_
    clear HB_
    have HP_ := Lib.hid (HP.out.grow hb_)
    clear HP
    have HP := HP_
    clear HP_
    have HT_ := Lib.hid (HT.out.grow hb_)
    clear HT
    have HT := HT_
    clear HT_
    clear hb_
    go_wp2_with fail
    refine (rroot_any n n c A ps xs _ (Nat.le_refl _) HX.out HP.out hc (by omega) HL.out HT.out).mono ?_
    rintro e w_ ⟨rfl, hb_⟩
    have HB_ := Lib.hid (HB.out.grow' hb_)
    clear HB
    have HB := HB_
    clear HB_
    have HP_ := Lib.hid (HP.out.grow hb_)
    clear HP
    have HP := HP_
    clear HP_
    have HT_ := Lib.hid (HT.out.grow hb_)
    clear HT
    have HT := HT_
    clear HT_
    clear hb_
    go_wp2_with fail
    refine (path_any n n c A ps i ds _ (Nat.le_refl _) HDS.out HP.out hc (by omega) HL.out HT.out).mono ?_
    rintro e w_ ⟨A1, c1, rfl, ho_, hb_⟩
    have HB_ := Lib.hid (HB.out.grow' hb_)
    clear HB
    have HB := HB_
    clear HB_
    have HP_ := Lib.hid (HP.out.grow hb_)
    clear HP
    have HP := HP_
    clear HP_
    have HT_ := Lib.hid (HT.out.grow hb_)
    clear HT
    have HT := HT_
    clear HT_
    clear hb_
    have H1 := Lib.hid (Ids.own ho_ rfl HD32.out (own_cap ho_))
    clear ho_
    go_wp2_with fail
    refine (rpath_any n n c A ps i ds _ (Nat.le_refl _) HDS.out HP.out hc (by omega) HL.out HT.out).mono ?_
    rintro e w_ ⟨A2, c2, rfl, ho_, hb_⟩
    have HB_ := Lib.hid (HB.out.grow' hb_)
    clear HB
    have HB := HB_
    clear HB_
    have HP_ := Lib.hid (HP.out.grow hb_)
    clear HP
    have HP := HP_
    clear HP_
    have HT_ := Lib.hid (HT.out.grow hb_)
    clear HT
    have HT := HT_
    clear HT_
    have H1_ := Lib.hid (H1.out.grow hb_)
    clear H1
    have H1 := H1_
    clear H1_
    clear hb_
    have H2 := Lib.hid (Ids.own ho_ rfl HD32.out (own_cap ho_))
    clear ho_
    go_wp2_with fail
    refine (rsame5_eq _ _ _ _ _ ds _ hdl H1.out H2.out).mono ?_
    rintro e w_ ⟨rfl, hb_⟩
    have HB_ := Lib.hid (HB.out.grow' hb_)
    clear HB
    have HB := HB_
    clear HB_
    have HT_ := Lib.hid (HT.out.grow hb_)
    clear HT
    have HT := HT_
    clear HT_
    clear hb_
    go_wp2_with fail
    refine (awake5_any _ HT.out).mono ?_
    rintro e w_ ⟨rfl, hb_⟩
    have HB_ := Lib.hid (HB.out.grow' hb_)
    clear HB
    have HB := HB_
    clear HB_
    clear hb_
    go_wp2_with fail
    go_ret
    exact ⟨rfl, HB.out⟩
theorem treeTells_walk (A : Option Addr) (n c : Nat) (ps : List (Value × List UInt8)) (i : Int) (w : World) (hp : Parts w w.heap.size A n ps) (hn : n ≤ c) (hc : c ≤ maxLen) (hz : (Lit.int .i64 i).wf = true) (ht : Tabs w) :
    Calls Tryd.prog 12 #[.slice A n c, .int .i64 i] w fun e w' => e = .returned (.bool true) ∧ Below w.heap.size w w' := treeTells_any A n c ps i w hp hn ht
end Go.Proofs.YtlondennhhffdaaDoor

/- The given card TreeTellsCardSaid, out of the walk treeTells_walk: for every input the law returns true, and each argument reads as it did; the tables of package sha are tied to the program's text. No condition. -/
namespace Go.Proofs.YtlondennhhffdaaDoor.lawTreeTells
open Go.ChangeShapes Go.WideShapes Go.ChangeAt Go.RowKit
open Go.ChangeMaps (open_string shut_string)
set_option linter.unusedVariables false

theorem laidOut : laidOutB Tryd.prog = true := laid_out
set_option maxRecDepth 100000 in
theorem contract (H : Type) (enc : TypeId × Value → H) (W : World) (base : Nat) (args : Array Value) (ds gs : List (DataW H)) (before : List MemPlace)
    (hval0 : ∀ (j : Nat) t v, Tryd.f12.params[j]? = some t → args[j]? = some v → Value.okWide Tryd.prog W .any base t v)
    (hW : DataW.Whole enc Tryd.prog Tryd.f12.params.toList Rows.treeTellsSpec.vars false W args.toList ds gs before) (hL : laidMetH Tryd.prog Rows.treeTellsRow.laid W) :
    Calls Tryd.prog 12 args W fun e W' => ∃ v, e = .returned v ∧ Rows.treeTellsSpec.post enc Tryd.prog Tryd.f12 false true false false W args v W' := by
  have hval : ∀ (j : Nat) t v, Tryd.f12.params[j]? = some t → args[j]? = some v → Value.okWide Tryd.prog W .any base t v := hval0
  have hW' := hW
  obtain ⟨p, q, hA0, hV, rfl, hfz, hnd⟩ := hW
  have hA : DataW.TrodAll enc Tryd.prog W 0 (fun _ => true) true Tryd.f12.params.toList args.toList ds p := hA0
  rw [Tryd.params12] at hA hval
  obtain ⟨v0, vs0, d0, ds0, p0, q0, hargs, rfl, rfl, h0, r0⟩ := trodAll_cons hA
  obtain ⟨v1, vs1, d1, ds1, p1, q1, rfl, rfl, rfl, h1, r1⟩ := trodAll_cons r0
  obtain ⟨rfl, rfl, rfl⟩ := trodAll_nil r1
  obtain rfl : args = #[v0, v1] := by cases args; simp_all
  obtain ⟨rfl, rfl⟩ := trodVars_none hV
  have k0 := h0
  have lt0 : ∀ x ∈ p0, x.block < W.heap.size := by obtain ⟨m, hm⟩ := k0; exact DataW.trod_lt m _ _ _ hm
  obtain ⟨x0_0, x0_1, x0_2, x0_3, rfl, f0_0, f0_1, f0_2⟩ := open_bb (hval 0 37 v0 rfl rfl) h0
  have k1 := h1
  have lt1 : ∀ x ∈ p1, x.block < W.heap.size := by obtain ⟨m, hm⟩ := k1; exact DataW.trod_lt m _ _ _ hm
  obtain ⟨a1, rfl, rfl, rfl, w1⟩ := open_int Tryd.underlying3 (hval 1 3 v1 rfl rfl) h1
  have htabs : Tabs W := tabs_of hL
  clear hA0 hval0 hL
  refine (treeTells_walk x0_0 x0_1 x0_2 x0_3 a1 W f0_0 f0_1 f0_2 w1 htabs).mono fun e W' ⟨he, bel⟩ => ?_
  subst he
  exact ⟨_, rfl, _, _, _, [], _, [], hW', trodAll_mk1 (shut_bool Tryd.underlying4 _), (trodAll_cons_mk (Below.trod laidOut (by kernel_rfl) (of_decide_eq_true (by kernel_rfl)) k0 bel lt0) (trodAll_cons_mk (Below.trod laidOut (by kernel_rfl) (of_decide_eq_true (by kernel_rfl)) k1 bel lt1) trodAll_mk0)), rfl, bel.frame _, fun h => by cases h⟩

theorem laid_met (os : Os) : laidMet Tryd.prog Rows.treeTellsRow.laid ((laidWorld os).forCall (fun _ _ => 0) ⟨#[], #[.slice none 0 0, .int .i64 0], []⟩).memory :=
  laidMet_of_run' 8 (by kernel_rfl) (by kernel_rfl)
theorem reads (os : Os) {H : Type} (enc : TypeId × Value → H) : ∃ ds places, DataW.whole enc Tryd.prog ((laidWorld os).forCall (fun _ _ => 0) ⟨#[], #[.slice none 0 0, .int .i64 0], []⟩).memory Tryd.f12.params.toList Rows.treeTellsSpec.vars false #[.slice none 0 0, .int .i64 0].toList 8 = some (ds, [], places) := by
  obtain ⟨⟨ds, gs, pl⟩, h, e⟩ := Option.map_eq_some_iff.1 (show (DataW.whole enc Tryd.prog ((laidWorld os).forCall (fun _ _ => 0) ⟨#[], #[.slice none 0 0, .int .i64 0], []⟩).memory Tryd.f12.params.toList Rows.treeTellsSpec.vars false #[.slice none 0 0, .int .i64 0].toList 8).map (fun x => x.2.1) = some [] by kernel_rfl)
  simp only at e
  subst e
  exact ⟨ds, pl, h⟩

set_option maxRecDepth 100000 in
theorem lifted (os : Os) (started : os.Started) (H : Type) (enc : TypeId × Value → H) (F : Stop.Interp) :
    ReturnsInHanded {} Tryd.checked os 12 .any ((OpenSpec.ofChange Rows.treeTellsSpec).preRow enc Tryd.prog Tryd.f12 Rows.treeTellsRow.domain false Rows.treeTellsRow.laid) (((OpenSpec.ofChange Rows.treeTellsSpec).at F).post enc Tryd.prog Tryd.f12 false true false false) := by
  obtain ⟨ds, places, hx⟩ := reads os enc
  refine returnsInHanded_of_row (C := Tryd.checked) (s := OpenSpec.ofChange Rows.treeTellsSpec) own_knob started (by kernel_rfl) Tryd.func12
    (witness_row_at (enc := enc) (C := Tryd.checked) false (laidWorld os) #[.slice none 0 0, .int .i64 0] rfl (by kernel_rfl) (by kernel_rfl) (by kernel_rfl)
      (OpenSpec.preRow_of_cond 8 hx (by kernel_rfl) (fun k hk => by cases hk) (by kernel_rfl) (laid_met os))) ?_
  intro W base args ds gs before hval hW _ _ _ hL _ _
  exact contract H enc W base args ds gs before hval hW hL

theorem said : Rows.TreeTellsSaid :=
  OpenClaim.holds_of_cond 12 Tryd.f12 rfl rfl rfl rfl rfl rfl rfl ⟨rfl, rfl, rfl, rfl, rfl⟩ rfl rfl rfl rfl rfl (by kernel_rfl) Tryd.func12 (by kernel_rfl)
    (of_decide_eq_true (by kernel_rfl)) (by unfold Func.isWrapper; first | (rw [if_pos (by decide +kernel)]; kernel_rfl) | (rw [if_neg (by decide +kernel)]; exact ⟨rfl, rfl⟩))
    (fun os started H enc _ F => by rw [OpenClaim.pre_eq_preRow]; exact lifted os started H enc F)

theorem plain (f : FuncId) (fn : Func) (hf : Tryd.pinned.checked.prog.funcNamed "seisin/seisinlaw05.TreeTells" = some f) (hfn : Tryd.pinned.checked.prog.funcs[f]? = some fn) :
    false = Tryd.pinned.checked.prog.looks [] ∧ ∀ (j : Nat) t, fn.params[j]? = some t → Tryd.pinned.checked.prog.wantsStandIn t = false := by
  obtain rfl : f = 12 := Option.some.inj ((show Tryd.prog.funcNamed "seisin/seisinlaw05.TreeTells" = some 12 by kernel_rfl).symm.trans hf) |>.symm
  obtain rfl : fn = Tryd.f12 := (Option.some.inj (Tryd.func12.symm.trans hfn)).symm
  refine ⟨by kernel_rfl, fun j t ht => ?_⟩
  rw [Tryd.params12] at ht
  have hm : t ∈ [37, 3] := by simpa using Array.mem_of_getElem? ht
  have hall : ([37, 3].all fun u => !Tryd.prog.wantsStandIn u) = true := by kernel_rfl
  exact (show Tryd.prog.wantsStandIn t = false by simpa using List.all_eq_true.1 hall t hm)

theorem proved : Rows.TreeTellsCardSaid :=
  Claim7.holds_tied_plain_at .later [] _ _ _ _ said (fun _ h => by cases h) (by kernel_rfl) (fun _ h => by cases h) treeTells_row_tie rfl ⟨rfl, rfl⟩ (by kernel_rfl) rfl plain (by kernel_rfl)
#print axioms proved
end Go.Proofs.YtlondennhhffdaaDoor.lawTreeTells

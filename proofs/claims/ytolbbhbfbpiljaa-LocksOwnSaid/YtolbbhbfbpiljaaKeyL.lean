/- maps.Keys over a map from outputs to locks: the iterator's value gives the keys, each once, in some order. Printed by mkkeys.py. -/
import Derived.Test.YtolbbhbfbpiljaaIterP
import Derived.Test.YtolbbhbfbpiljaaSfP
namespace Go.Proofs.Ytolbbhbfbpiljaa
open Go.RowKit Go.Maps Go.Sort Go.Shelf
set_option linter.unusedVariables false
set_option maxRecDepth 100000 in
set_option maxHeartbeats 2000000 in
theorem kkL1_in (F : Fence) (n : Nat) (h10 : F.fn 112) (hro : F.round = none) (hn : 1 ≤ n) (l Bm b clock : Nat) (es : Array MapEntry) (hE : ∀ en ∈ es.toList, ∃ p : PtS, en.key = encPV p) (hk : MapOK Try.prog 52 es clock) (J : List PtS → World → Prop)
    (hY : ∀ pre x W, J pre W → pre.length < es.size → YieldAt F (n - 1) Try.prog l #[encPV x] W fun e W' => e = .returned (.bool true) ∧ J (pre ++ [x]) W' ∧ KeepsWalks W W')
    (W : World) (hJ : AbidesFrom W.heap.size J) (hm : W.cell? ⟨Bm, 0, none⟩ = some (.map (some b))) (hb : W.heap[b]? = some (.map es clock)) (h0 : J [] W) :
    CallsIn F n Try.prog 112 #[.func (.yield l) #[] #[], .pointer (some ⟨Bm, 0, none⟩)] W fun e W' => (∃ v, e = .returned v) ∧ ∃ ss : List PtS, ss.Perm (es.toList.map dkP) ∧ J ss W' := by
  have HK := Lib.hid hk; have HE := Lib.hid hE; have HY := Lib.hid hY; have HJ := Lib.hid hJ; have HZL := Lib.hid (show (ptV (pt 0)).length = 33 from ptV_length (pt_ok 0 (by decide)).1)
  clear hk hE hY hJ
  obtain ⟨sz, hsz⟩ : ∃ sz, sz = W.heap.size := ⟨_, rfl⟩
  have HSZ := Lib.hid hsz
  clear hsz
  refine callsIn_of_wp Try.func112 rfl h10 ?_ hro
  simp only [Try.ntmps112, List.size_toArray, List.length_cons, List.length_nil, Nat.reduceAdd, Nat.reduceSub, Array.replicate_succ, Array.replicate_zero, List.push_toArray, List.append_toArray, List.nil_append, List.cons_append]
  gi_wp2_with (first
    | (gi_at_range; refine wpi_range (o := ⟨some 5, _, _, _, _, _⟩) _ rfl rfl Try.underlying118 rfl hb HK.out ?_; intro w0 hrg0 hg0 hs0)
    | gi_in)
  rw [← HSZ.out] at hrg0 ⊢
  have hJ0 : J [] w0 := HJ.out [] W w0 none h0 hg0 (fun r e => by cases e)
  clear h0 hg0 hs0
  have HR0 := Lib.hid hrg0; have HJ0 := Lib.hid hJ0
  clear hrg0 hJ0 hb hm
  go_frame
  gi_loopw [3] (fun _ wr => ∃ vs, Hid (ItAt wr b sz es clock vs ∧ J (vs.map dkP) wr)) (fun _ wr => itLeft wr b sz)
  case atStart => exact ⟨[], Lib.hid ⟨HR0.out, HJ0.out⟩⟩
  case round =>
    obtain ⟨vs, HREL⟩ := hrel
    gi_wp2_with (first
      | (gi_at_next; refine wpi_next (o := ⟨some 6, _, _, _, _, _⟩) _ rfl rfl rfl HREL.out.1 HK.out ?_ ?_)
      | gi_in)
    · intro hperm
      have HP := Lib.hid hperm
      clear hperm
      gi_wp2
      go_end0
      exact ⟨⟨_, rfl⟩, _, HP.out.map _, HREL.out.2⟩
    · intro en w2 hen hit2 hlt hg2 hs2 hent
      obtain ⟨x, hx⟩ := HE.out en (Array.mem_toList_iff.2 hen)
      have hdk : dkP en = x := by unfold dkP; rw [hx, decP_enc]
      have hJ2 : J (vs.map dkP) w2 := HJ.out _ wr w2 (some sz) HREL.out.2 hg2 (fun r e => by cases e; exact ⟨Nat.le_of_eq HSZ.out.symm, HREL.out.1.walk⟩)
      have HI2 := Lib.hid hit2; have HJ2 := Lib.hid hJ2; have HD := Lib.hid hdk; have HLT := Lib.hid hlt
      have hlen := HI2.out.left_eq
      have hlen0 := HREL.out.1.left_eq
      have HM := Lib.hid (show itLeft w2 b sz < itLeft wr b sz by rw [hlen, hlen0]; simp only [List.length_append, List.length_singleton]; omega)
      rw [hx] at hent
      unfold encPV at hent hx
      have HX := Lib.hid hx; have HLX := Lib.hid (encPt_len x); have HOX := Lib.hid (encPt_one x)
      obtain ⟨xs, hxs⟩ : ∃ xs, xs = encPt x := ⟨_, rfl⟩
      have HXE := Lib.hid hxs
      rw [← hxs] at hent HLX HOX HX
      rw [HX.out]
      clear hen hit2 hg2 hs2 hx hdk hJ2 hlen hlen0 hlt hxs
      gi_wp2_with (first | (with_reducible refine wpi_alloc (o := ⟨some 3, _, _, _, _, _⟩) rfl rfl zero_pt ?_) | gi_in)
      intro V1 hb1 hV1
      have HB1 := Lib.hid hb1
      have HG1 := Lib.hid (show w2.grownBy V1 none by rw [hV1]; exact World.grownBy_alloc _ _ none)
      have HK1 := Lib.hid (show KeepsWalks w2 V1 by rw [hV1]; exact KeepsWalks.alloc _ _)
      clear hb1 hV1 hent
      obtain ⟨gv, hgv⟩ : ∃ g, g = w2.heap.size := ⟨_, rfl⟩
      rw [← hgv] at HB1 ⊢
      have HGV := Lib.hid hgv
      clear hgv
      gi_wp2_with (first | (with_reducible refine wpi_storeb (o := ⟨none, .store _ _ _, _, _, _, _⟩) rfl rfl row_point HB1.out rfl rfl HZL.out HLX.out HOX.out ?_) | gi_in)
      intro V2 hb2 hg2 hsz2
      have HB2 := Lib.hid hb2
      have HG2 := Lib.hid (show w2.grownBy V2 none from grownBy_drop (grownBy_trans0 (grownBy_up HG1.out) hg2) (Nat.le_of_eq HGV.out.symm))
      have HK2 := Lib.hid (show KeepsWalks w2 V2 from HK1.out.trans (KeepsWalks.of_grownBy hg2 (fun j o hj ho => by cases hj; rw [HB1.out] at ho; cases ho; rfl)))
      clear hb2 hg2 hsz2 HB1 HG1 HK1
      have HJ3 := Lib.hid (show J (vs.map dkP) V2 from HJ.out _ w2 V2 none HJ2.out HG2.out (fun r e => by cases e))
      have HI3 := Lib.hid (HI2.out.of_walks HK2.out)
      have hpl : (vs.map dkP).length < es.size := by rw [List.length_map]; exact HLT.out
      obtain ⟨fn, tmps, assign, body, hy, hR⟩ := HY.out (vs.map dkP) x V2 HJ3.out hpl
      unfold encPV at hy
      rw [← HXE.out] at hy
      clear hpl
      gi_wp2_with (first | (with_reducible refine wpi_loadb (o := ⟨some 11, _, _, _, _, _⟩) rfl rfl row_point HB2.out rfl HLX.out ?_) | gi_in)
      refine hR.mono ?_
      rintro e W3 ⟨rfl, hJ4, hk4⟩
      have HI4 := Lib.hid (HI3.out.of_walks hk4)
      have HR4 := Lib.hid (show ItAt W3 b sz es clock (vs ++ [en]) ∧ J ((vs ++ [en]).map dkP) W3 from ⟨HI4.out, by rw [List.map_append, List.map_cons, List.map_nil, HD.out]; exact hJ4⟩)
      clear hJ4 hk4 hR hy
      gi_wp2
      have HM4 := Lib.hid (show itLeft W3 b sz = itLeft w2 b sz by rw [HI4.out.left_eq, HI2.out.left_eq])
      go_roundw
      case rel => exact ⟨_, HR4⟩
      case measure => rw [HM4.out]; exact HM.out
/-- maps.Keys(m). -/
theorem kkL_any (m : Option Nat) (w : World) :
    Calls Try.prog 89 #[.map m] w fun e w' => e = .returned (.func (.func 112) #[] #[.pointer (some ⟨w.heap.size, 0, none⟩)]) ∧ w'.cell? ⟨w.heap.size, 0, none⟩ = some (.map m) ∧ Below w.heap.size w w' ∧ w.heap.size < w'.heap.size := by
  go_enter Try.func89, Try.ntmps89
  go_wp2
  go_ret
  refine ⟨rfl, ?_, (Below.refl _ w).alloc (Nat.le_refl _) _, by simp⟩
  unfold World.cell?
  rw [heap_alloc_new]
  rfl
theorem kkL_gives (n : Nat) (hn : 1 ≤ n) (Bm b clock : Nat) (es : Array MapEntry) (hE : ∀ en ∈ es.toList, ∃ p : PtS, en.key = encPV p) (hk : MapOK Try.prog 52 es clock) (w : World) (hBm : Bm < w.heap.size)
    (hm : w.cell? ⟨Bm, 0, none⟩ = some (.map (some b))) (hb : w.heap[b]? = some (.map es clock)) :
    SeqGives Fence.wide n Try.prog 112 #[.pointer (some ⟨Bm, 0, none⟩)] encPV (fun ss => ss.Perm (es.toList.map dkP)) es.size w := fun l J W hW hJ hY h0 =>
  kkL1_in Fence.wide n trivial rfl hn l Bm b clock es hE hk J hY W hJ ((hW.cell (p := ⟨Bm, 0, none⟩) hBm).trans hm) ((hW.block b (Array.getElem?_eq_some_iff.1 hb).1).trans hb) h0
end Go.Proofs.Ytolbbhbfbpiljaa

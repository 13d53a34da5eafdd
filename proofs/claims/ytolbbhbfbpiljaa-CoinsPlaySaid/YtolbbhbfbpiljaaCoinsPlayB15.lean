/- maps.Keys over a map from outputs to coins: the iterator's value gives the keys, each once, in some order. Printed by mkkeys.py. -/
import Derived.Test.YtolbbhbfbpiljaaCoinsPlayB6
import Derived.Test.YtolbbhbfbpiljaaCoinsPlayB8
import Derived.Test.YtolbbhbfbpiljaaCoinsPlayB13
import Derived.Test.YtolbbhbfbpiljaaCoinsPlayB14
import Derived.Test.YtolbbhbfbpiljaaRows
import Derived.Test.YtolbbhbfbpiljaaCoinsPlayB9
import Derived.Test.YtolbbhbfbpiljaaCoinsPlayB2
import Derived.OpenShut
import Derived.ChangeSame
set_option linter.unusedSimpArgs false
/- maps.Keys over a map from outputs to coins: the iterator's value gives the keys, each once, in some order. Printed by mkkeys.py. -/
namespace Go.Proofs.Ytolbbhbfbpiljaa
open Go.RowKit Go.Maps Go.Sort Go.Shelf
set_option linter.unusedVariables false
set_option maxRecDepth 100000 in
set_option maxHeartbeats 2000000 in
theorem kkC1_in (F : Fence) (n : Nat) (h10 : F.fn 115) (hro : F.round = none) (hn : 1 ≤ n) (l Bm b clock : Nat) (es : Array MapEntry) (hE : ∀ en ∈ es.toList, ∃ p : PtS, en.key = encPV p) (hk : MapOK Try.prog 52 es clock) (J : List PtS → World → Prop)
    (hY : ∀ pre x W, J pre W → pre.length < es.size → YieldAt F (n - 1) Try.prog l #[encPV x] W fun e W' => e = .returned (.bool true) ∧ J (pre ++ [x]) W' ∧ KeepsWalks W W')
    (W : World) (hJ : AbidesFrom W.heap.size J) (hm : W.cell? ⟨Bm, 0, none⟩ = some (.map (some b))) (hb : W.heap[b]? = some (.map es clock)) (h0 : J [] W) :
    CallsIn F n Try.prog 115 #[.func (.yield l) #[] #[], .pointer (some ⟨Bm, 0, none⟩)] W fun e W' => (∃ v, e = .returned v) ∧ ∃ ss : List PtS, ss.Perm (es.toList.map dkP) ∧ J ss W' := by
  have HK := Lib.hid hk; have HE := Lib.hid hE; have HY := Lib.hid hY; have HJ := Lib.hid hJ; have HZL := Lib.hid (show (ptV (pt 0)).length = 33 from ptV_length (pt_ok 0 (by decide)).1)
  clear hk hE hY hJ
  obtain ⟨sz, hsz⟩ : ∃ sz, sz = W.heap.size := ⟨_, rfl⟩
  have HSZ := Lib.hid hsz
  clear hsz
  refine callsIn_of_wp Try.func115 rfl h10 ?_ hro
  simp only [Try.ntmps115, List.size_toArray, List.length_cons, List.length_nil, Nat.reduceAdd, Nat.reduceSub, Array.replicate_succ, Array.replicate_zero, List.push_toArray, List.append_toArray, List.nil_append, List.cons_append]
  gi_wp2_with (first
    | (gi_at_range; refine wpi_range (o := ⟨some 5, _, _, _, _, _⟩) _ rfl rfl Try.underlying130 rfl hb HK.out ?_; intro w0 hrg0 hg0 hs0)
    | gi_in)
  rw [← HSZ.out] at hrg0 ⊢
  have hJ0 : J [] w0 := HJ.out [] W w0 none h0 hg0 (fun r e => by cases e)
  clear h0 hg0 hs0
  have HR0 := Lib.hid hrg0; have HJ0 := Lib.hid hJ0
  clear hrg0 hJ0 hb hm
  go_frame
  gi_loopw [3] (fun _ wr => ∃ vs, Hid (ItAt wr b sz es clock vs ∧ J (vs.map dkP) wr)) (fun _ wr => itLeft wr b sz)
  case atStart => exact ⟨[], Lib.hid ⟨HR0.out, HJ0.out⟩⟩
  case round =>
    obtain ⟨vs, HREL⟩ := hrel
    gi_wp2_with (first
      | (gi_at_next; refine wpi_next (o := ⟨some 6, _, _, _, _, _⟩) _ rfl rfl rfl HREL.out.1 HK.out ?_ ?_)
      | gi_in)
    · intro hperm
      have HP := Lib.hid hperm
      clear hperm
      gi_wp2
      go_end0
      exact ⟨⟨_, rfl⟩, _, HP.out.map _, HREL.out.2⟩
    · intro en w2 hen hit2 hlt hg2 hs2 hent
      obtain ⟨x, hx⟩ := HE.out en (Array.mem_toList_iff.2 hen)
      have hdk : dkP en = x := by unfold dkP; rw [hx, decP_enc]
      have hJ2 : J (vs.map dkP) w2 := HJ.out _ wr w2 (some sz) HREL.out.2 hg2 (fun r e => by cases e; exact ⟨Nat.le_of_eq HSZ.out.symm, HREL.out.1.walk⟩)
      have HI2 := Lib.hid hit2; have HJ2 := Lib.hid hJ2; have HD := Lib.hid hdk; have HLT := Lib.hid hlt
      have hlen := HI2.out.left_eq
      have hlen0 := HREL.out.1.left_eq
      have HM := Lib.hid (show itLeft w2 b sz < itLeft wr b sz by rw [hlen, hlen0]; simp only [List.length_append, List.length_singleton]; omega)
      rw [hx] at hent
      unfold encPV at hent hx
      have HX := Lib.hid hx; have HLX := Lib.hid (encPt_len x); have HOX := Lib.hid (encPt_one x)
      obtain ⟨xs, hxs⟩ : ∃ xs, xs = encPt x := ⟨_, rfl⟩
      have HXE := Lib.hid hxs
      rw [← hxs] at hent HLX HOX HX
      rw [HX.out]
      clear hen hit2 hg2 hs2 hx hdk hJ2 hlen hlen0 hlt hxs
      gi_wp2_with (first | (with_reducible refine wpi_alloc (o := ⟨some 3, _, _, _, _, _⟩) rfl rfl zero_pt ?_) | gi_in)
      intro V1 hb1 hV1
      have HB1 := Lib.hid hb1
      have HG1 := Lib.hid (show w2.grownBy V1 none by rw [hV1]; exact World.grownBy_alloc _ _ none)
      have HK1 := Lib.hid (show KeepsWalks w2 V1 by rw [hV1]; exact KeepsWalks.alloc _ _)
      clear hb1 hV1 hent
      obtain ⟨gv, hgv⟩ : ∃ g, g = w2.heap.size := ⟨_, rfl⟩
      rw [← hgv] at HB1 ⊢
      have HGV := Lib.hid hgv
      clear hgv
      gi_wp2_with (first | (with_reducible refine wpi_storeb (o := ⟨none, .store _ _ _, _, _, _, _⟩) rfl rfl row_point HB1.out rfl rfl HZL.out HLX.out HOX.out ?_) | gi_in)
      intro V2 hb2 hg2 hsz2
      have HB2 := Lib.hid hb2
      have HG2 := Lib.hid (show w2.grownBy V2 none from grownBy_drop (grownBy_trans0 (grownBy_up HG1.out) hg2) (Nat.le_of_eq HGV.out.symm))
      have HK2 := Lib.hid (show KeepsWalks w2 V2 from HK1.out.trans (KeepsWalks.of_grownBy hg2 (fun j o hj ho => by cases hj; rw [HB1.out] at ho; cases ho; rfl)))
      clear hb2 hg2 hsz2 HB1 HG1 HK1
      have HJ3 := Lib.hid (show J (vs.map dkP) V2 from HJ.out _ w2 V2 none HJ2.out HG2.out (fun r e => by cases e))
      have HI3 := Lib.hid (HI2.out.of_walks HK2.out)
      have hpl : (vs.map dkP).length < es.size := by rw [List.length_map]; exact HLT.out
      obtain ⟨fn, tmps, assign, body, hy, hR⟩ := HY.out (vs.map dkP) x V2 HJ3.out hpl
      unfold encPV at hy
      rw [← HXE.out] at hy
      clear hpl
      gi_wp2_with (first | (with_reducible refine wpi_loadb (o := ⟨some 11, _, _, _, _, _⟩) rfl rfl row_point HB2.out rfl HLX.out ?_) | gi_in)
      refine hR.mono ?_
      rintro e W3 ⟨rfl, hJ4, hk4⟩
      have HI4 := Lib.hid (HI3.out.of_walks hk4)
      have HR4 := Lib.hid (show ItAt W3 b sz es clock (vs ++ [en]) ∧ J ((vs ++ [en]).map dkP) W3 from ⟨HI4.out, by rw [List.map_append, List.map_cons, List.map_nil, HD.out]; exact hJ4⟩)
      clear hJ4 hk4 hR hy
      gi_wp2
      have HM4 := Lib.hid (show itLeft W3 b sz = itLeft w2 b sz by rw [HI4.out.left_eq, HI2.out.left_eq])
      go_roundw
      case rel => exact ⟨_, HR4⟩
      case measure => rw [HM4.out]; exact HM.out
/-- maps.Keys(m). -/
theorem kkC_any (m : Option Nat) (w : World) :
    Calls Try.prog 94 #[.map m] w fun e w' => e = .returned (.func (.func 115) #[] #[.pointer (some ⟨w.heap.size, 0, none⟩)]) ∧ w'.cell? ⟨w.heap.size, 0, none⟩ = some (.map m) ∧ Below w.heap.size w w' ∧ w.heap.size < w'.heap.size := by
  go_enter Try.func94, Try.ntmps94
  go_wp2
  go_ret
  refine ⟨rfl, ?_, (Below.refl _ w).alloc (Nat.le_refl _) _, by simp⟩
  unfold World.cell?
  rw [heap_alloc_new]
  rfl
theorem kkC_gives (n : Nat) (hn : 1 ≤ n) (Bm b clock : Nat) (es : Array MapEntry) (hE : ∀ en ∈ es.toList, ∃ p : PtS, en.key = encPV p) (hk : MapOK Try.prog 52 es clock) (w : World) (hBm : Bm < w.heap.size)
    (hm : w.cell? ⟨Bm, 0, none⟩ = some (.map (some b))) (hb : w.heap[b]? = some (.map es clock)) :
    SeqGives Fence.wide n Try.prog 115 #[.pointer (some ⟨Bm, 0, none⟩)] encPV (fun ss => ss.Perm (es.toList.map dkP)) es.size w := fun l J W hW hJ hY h0 =>
  kkC1_in Fence.wide n trivial rfl hn l Bm b clock es hE hk J hY W hJ ((hW.cell (p := ⟨Bm, 0, none⟩) hBm).trans hm) ((hW.block b (Array.getElem?_eq_some_iff.1 hb).1).trans hb) h0
end Go.Proofs.Ytolbbhbfbpiljaa

/- The contract of coins.All. Printed by mkcall.py. -/
namespace Go.Proofs.Ytolbbhbfbpiljaa
open Go.RowKit Go.Maps Go.Sort Go.Shelf
set_option linter.unusedVariables false
theorem kvs_ptsC {es : Array MapEntry} {L : CoinsL} (h : kvs es = encC L) (hl : LOK L) : (es.toList.map dkP).map (·.1) = L.map (·.1) := by
  have e1 : (es.toList.map dkP).map (·.1) = (kvs es).map (fun p => (decP p.1).1) := by unfold kvs; rw [List.map_map, List.map_map]; rfl
  rw [e1, h]; unfold encC; rw [List.map_map]
  refine List.map_congr_left fun e he => ?_
  exact decP_pt (hl.1 e he).1
theorem kvs_encPC {es : Array MapEntry} {L : CoinsL} (h : kvs es = encC L) (hl : LOK L) : ∀ en ∈ es.toList, ∃ p : PtS, en.key = encPV p := by
  intro en hen
  have : (en.key, en.val) ∈ kvs es := List.mem_map.2 ⟨en, hen, rfl⟩
  rw [h] at this
  obtain ⟨e, he, hee⟩ := List.mem_map.1 this
  exact ⟨⟨e.1, (hl.1 e he).1⟩, by simp only [Prod.mk.injEq] at hee; exact hee.1.symm⟩
set_option maxRecDepth 100000 in
set_option maxHeartbeats 1000000 in
theorem call_any (g b : Nat) (L : CoinsL) (s : Int) (w : World) (h : CoinsAt w g b L s) (hn : L.length ≤ 1000000) :
    Calls Try.prog 63 #[.pointer (some ⟨g, 0, none⟩)] w fun e w' => ∃ (v : Value) (ks : List PtS), e = .returned v ∧ (ks.map (·.1)).Perm (L.map (·.1)) ∧ (∃ ss, ks = sortP ss) ∧ w'.ownsRow w.heap.size 52 33 v ks.length (ks.flatMap encPt) ∧ Below w.heap.size w w' := by
  have HH := Lib.hid h
  have c1 := h.blk.at_ (i := 0) rfl
  clear h
  go_enter Try.func63, Try.ntmps63
  go_wp2_with fail
  refine (kkC_any (some b) w).mono ?_
  rintro e w1 ⟨rfl, hm, hb, hlt⟩
  have HM := Lib.hid hm; have HB := Lib.hid hb; have HLT := Lib.hid hlt
  have HH1 := Lib.hid (HH.out.call hb)
  clear hm hb hlt c1
  obtain ⟨es, clock, h3, h4, h5⟩ := HH1.out.map
  have HP := Lib.hid (kvs_ptsC h5 HH1.out.ok)
  have hsz : es.size = L.length := by rw [← kvs_length, h5]; simp [encC]
  have HS := Lib.hid (sfdP_any 115 #[.pointer (some ⟨w.heap.size, 0, none⟩)] (enters_of Try.func115 (by kernel_rfl) rfl) _ es.size (by omega) w1 (kkC_gives 1 (by omega) w.heap.size b clock es (kvs_encPC h5 HH1.out.ok) h4 w1 HLT.out HM.out h3))
  clear h3 h4 h5 hsz
  obtain ⟨zz, hzz⟩ : ∃ z, z = w.heap.size := ⟨_, rfl⟩
  rw [← hzz] at HS HB ⊢
  have HZ := Lib.hid hzz
  clear hzz
  go_wp2_with fail
  refine HS.out.mono ?_
  rintro e w2 ⟨v, ss, rfl, hS, hrow, hnil, hb2⟩
  have HR2 := Lib.hid hrow; have HB2 := Lib.hid hb2; have HS2 := Lib.hid hS
  clear hS hrow hnil hb2 HS
  go_wp2_with fail
  go_ret
  refine ⟨v, sortP ss, rfl, ?_, ⟨ss, rfl⟩, ?_, ?_⟩
  · rw [← HP.out]; exact ((sortP_perm ss).trans HS2.out).map _
  · rw [sortP_len]
    have := HR2.out
    exact ⟨this.1, this.2.imp id (fun ⟨a, b', c, h1, h2, h3⟩ => ⟨a, b', c, h1, Nat.le_trans HB.out.size h2, h3⟩)⟩
  · have hq := HB.out.trans (HB2.out.mono (by rw [HZ.out]; exact HB.out.size))
    rw [HZ.out] at hq; exact hq
end Go.Proofs.Ytolbbhbfbpiljaa

/- Which blocks a pen leaves alone: those below it, and two ranges of later ones. No program in sight. -/
namespace Go.Proofs.Ytolbbhbfbpiljaa
open Go.RowKit
def KR (gp z1 z2 : Nat) : Nat → Prop := fun j => j < gp ∨ (z1 ≤ j ∧ j < z2)
def KS (gp z1 z2 z3 z4 : Nat) : Nat → Prop := fun j => KR gp z1 z2 j ∨ (z3 ≤ j ∧ j < z4)
/-- Memory has grown since w0. -/
def Gw (w0 w : World) : Prop := Grow w0 w
theorem Gw.grow {w0 w w' : World} (h : Gw w0 w) (k : Grow w w') : Gw w0 w' := below_chain h k
theorem Gw.refl (w : World) : Gw w w := Below.refl _ _
end Go.Proofs.Ytolbbhbfbpiljaa

/- The contract of coins.Put1. Printed by mkcoinp.py. -/
namespace Go.Proofs.Ytolbbhbfbpiljaa
open Go.RowKit
set_option linter.unusedVariables false
theorem CoinsAt.look0 {w : World} {g b : Nat} {L : CoinsL} {s : Int} (h : CoinsAt w g b L s) {p : PtK} (hp : PtOK p) :
    ∃ c : CoinV, CoinOK c ∧ c = (lookC L p).getD noCoin ∧ (Instr.lookup 130 (.map (some b)) (ptA p) false).run Try.prog w = .ok (coinA c) w := by
  obtain ⟨hb1, ⟨es, clock, h3, h4, h5⟩, ⟨h6, h6'⟩, h7⟩ := h
  obtain ⟨lx, hx⟩ := keyOf_pt p hp
  unfold lookC
  cases hf : L.find? (fun e => e.1 == p) with
  | none =>
    refine ⟨noCoin, noCoin_ok, rfl, ?_⟩
    refine lookup0_nok kl_point Try.underlying130 h3 h4 hx ?_ zeroV_coin
    intro q hq e
    rw [h5] at hq
    obtain ⟨en, hen, rfl⟩ := List.mem_map.1 hq
    have := List.find?_eq_none.1 hf en hen
    exact this (by simpa using ptA_inj (h6 en hen).1.1 hp.1 e)
  | some en =>
    have hmem := List.mem_of_find?_eq_some hf
    have hkey : en.1 = p := by simpa using List.find?_some hf
    refine ⟨en.2, (h6 en hmem).2, rfl, ?_⟩
    obtain ⟨j, hj, hje⟩ := List.getElem_of_mem hmem
    have e1 : (kvs es)[j]? = some (ptA en.1, coinA en.2) := by rw [h5]; unfold encC; rw [List.getElem?_map, List.getElem?_eq_getElem hj, hje]; rfl
    unfold kvs at e1
    rw [List.getElem?_map] at e1
    obtain ⟨me, hme, hmm⟩ := Option.map_eq_some_iff.1 e1
    simp only [Prod.mk.injEq] at hmm
    have := lookup0_yesk kl_point Try.underlying130 h3 h4 hx (j := j) (en := me) (by simpa using hme) (by rw [hmm.1, hkey])
    rw [hmm.2] at this
    exact this
theorem CoinsAt.grow {w w' : World} {g b : Nat} {L : CoinsL} {s : Int} (h : CoinsAt w g b L s) (k : Grow w w') : CoinsAt w' g b L s := h.call k
theorem CoinsAt.keptK {K : Nat → Prop} {w w' : World} {g b : Nat} {L : CoinsL} {s : Int} (h : CoinsAt w g b L s) (k : Kept K w w') (h1 : K g) (h2 : K b) : CoinsAt w' g b L s := by
  obtain ⟨q1, ⟨es, clock, q2, q3, q4⟩, q5, q6⟩ := h
  exact ⟨k.blk q1 h1, ⟨es, clock, (k.block b h2).trans q2, q3, q4⟩, q5, q6⟩
set_option maxRecDepth 100000 in
set_option maxHeartbeats 8000000 in
theorem cput1_any (g b gp : Nat) (X L : CoinsL) (s : Int) (w : World) (h : CoinsAt w g b L s) (hr : RelC X L s) (hp : PenAt w (KR gp 0 0) gp []) (hg : g < gp) (hb : b < gp) :
    Calls Try.prog 64 #[.pointer (some ⟨g, 0, none⟩), .pointer (some ⟨gp, 0, none⟩)] w fun e w' => e = .returned (.tuple #[]) ∧ PenAt w' (KR gp 0 0) gp (bytesC X) ∧ Below gp w w' := by
  obtain ⟨n, hn⟩ : ∃ n, n = L.length := ⟨_, rfl⟩
  have hn256 : n ≤ 256 := by rw [hn]; exact hr.len
  have hXn : X.length = n := by rw [hr.lenX, hn]
  have HPT := Lib.hid (show bytesC X = numB n ++ X.flatMap putAt by unfold bytesC; rw [hXn])
  have HR := Lib.hid hr; have HP := Lib.hid hp; have HC := Lib.hid h
  have HGB := Lib.hid (show KR gp 0 0 g ∧ KR gp 0 0 b from ⟨.inl hg, .inl hb⟩)
  have e0 : ∀ es : Array MapEntry, kvs es = encC L → es.size = n := fun es h5 => by rw [← kvs_length, h5]; simp [encC, hn]
  obtain ⟨es0, clock0, h3, h4, h5⟩ := h.map
  have e1 := e0 es0 h5
  have hl := fun ty => run_len_map w 130 ty b es0 clock0 Try.underlying130 h3
  simp only [e1] at hl
  have c1 : w.cell? ⟨g, 0, none⟩ = some (.map (some b)) := h.blk.at_ rfl
  have HNE := Lib.hid hn
  clear h hr hp h3 h4 h5 e0 e1 hn
  have q1 := conv_u64' (n := n) (by omega)
  obtain ⟨out, hout⟩ : ∃ q, q = bytesC X := ⟨_, rfl⟩
  rw [← hout] at HPT ⊢
  clear hout
  go_enter Try.func64, Try.ntmps64
  go_wp2_with fail
  refine (num_any gp n (KR gp 0 0) [] _ HP.out (by simp) (by omega)).mono ?_
  rintro e w1 ⟨rfl, hp_, hk_⟩
  have HP1 := Lib.hid (show PenAt w1 (KR gp 0 0) gp (numB n) from hp_)
  have HK1 := Lib.hid hk_
  have HC1 := Lib.hid (HC.out.keptK hk_ HGB.out.1 HGB.out.2)
  clear hp_ hk_ HP HC hl c1 q1
  have HALL := Lib.hid (call_any g b L s w1 HC1.out (by rw [← HNE.out]; omega))
  go_wp2_with fail
  refine HALL.out.mono ?_
  rintro e w2 ⟨v, ks, rfl, hperm, ⟨ss, hss⟩, hrow, hb2⟩
  have hkx := HR.out.all hperm hss
  have hkl : ks.length = n := by have := congrArg List.length hkx; rw [List.length_map, List.length_map, hXn] at this; exact this
  obtain ⟨A, c, rfl⟩ := own_slice hrow
  rw [hkl] at hrow
  have HKX := Lib.hid hkx
  obtain ⟨z1, hz1⟩ : ∃ z, z = w1.heap.size := ⟨_, rfl⟩
  obtain ⟨z2, hz2⟩ : ∃ z, z = w2.heap.size := ⟨_, rfl⟩
  rw [← hz1] at hrow
  have HV := Lib.hid (show OwnP w2 z1 A n c ks from hrow)
  have HVB := Lib.hid (show ∀ q, A.map Addr.block = some q → KR gp z1 z2 q from fun q hq => .inr ⟨own_from hrow q hq, by rw [hz2]; exact own_lt hrow q hq⟩)
  have HGZ := Lib.hid (show gp < z1 by rw [hz1]; exact HP1.out.lt)
  have HP2 := Lib.hid (show PenAt w2 (KR gp z1 z2) gp (numB n) from HP1.out.more hb2 (fun j hj => by
    rcases hj with h | h
    · exact .inl (.inl h)
    · exact .inr (by rw [← hz1, ← hz2]; exact h)))
  have HK2 := Lib.hid (show Below gp w w2 from (HK1.out.below (fun j hj => .inl hj)).trans (hb2.mono (by rw [← hz1]; have := HGZ.out; omega)))
  have HC2 := Lib.hid (HC1.out.call hb2)
  have HZ2 := Lib.hid (show z2 = w2.heap.size from hz2)
  have HZ12 := Lib.hid (show z1 ≤ z2 by rw [hz1, hz2]; exact hb2.size)
  rw [hkl]
  clear hperm hss hrow hb2 hkx hkl hz1 hz2 HP1 HK1 HC1 HALL
  have HQ0 := Lib.hid (show numB n = numB n ++ (X.take 0).flatMap putAt by simp)
  have HKQ0 := Lib.hid (Kept.refl (KR gp z1 z2) w2)
  go_wp2_with fail
  go_loopw [18] (fun iv wr => ∃ k : Nat, k ≤ n ∧ iv = .int .i64 k ∧ Hid (∃ acc : List UInt8, PenAt wr (KR gp z1 z2) gp acc ∧ acc.length ≤ 9 + k * 82 ∧ acc = numB n ++ (X.take k).flatMap putAt ∧ Kept (KR gp z1 z2) w2 wr)) (fun iv _ => n - (intOf iv).toNat)
  case atStart => exact ⟨0, by omega, rfl, Lib.hid ⟨numB n, HP2.out, by have := numB_le (n := n) (by omega); omega, HQ0.out, HKQ0.out⟩⟩
  case round =>
    obtain ⟨k, hk, rfl, hI⟩ := hrel
    clear HP2 HQ0 HKQ0
    obtain ⟨acc, hpn, hal, hac, hkq⟩ := hI.out
    have HP := Lib.hid hpn; have HAC := Lib.hid hac; have HKQ := Lib.hid hkq
    clear hI hpn hac hkq
    rename World => w_
    by_cases hlt : k < n
    · obtain ⟨x, hx⟩ : ∃ x, ks[k]? = some x := ⟨_, List.getElem?_eq_getElem (by have := HV.out.len; omega)⟩
      obtain ⟨p, hp⟩ : ∃ p, X[k]? = some p := ⟨_, List.getElem?_eq_getElem (by omega)⟩
      have hxp : x.1 = p.1 := by
        have h1 := congrArg (fun l => l[k]?) HKX.out
        simp only [List.getElem?_map, hx, hp, Option.map_some] at h1
        exact Option.some.inj h1
      have hmem := List.mem_of_getElem? hp
      have hok := HR.out.okX p hmem
      have HSN := Lib.hid (fm_snocR putAt hp)
      have hix := HR.out.ixX p hmem
      have hlk : lookC L p.1 = some p.2 := lookC_eq HR.out.ok.2 (HR.out.perm.mem_iff.1 hmem)
      obtain ⟨ix, hix1, hixl, hix2⟩ := natI (m := 15) hix.1 hix.2
      obtain ⟨am, ham, haml, ham2⟩ := natU hok.2.2.1 hok.2.2.2
      obtain ⟨tx, htx⟩ : ∃ q, q = p.1.1 := ⟨_, rfl⟩
      obtain ⟨ow, how⟩ : ∃ q, q = p.2.1 := ⟨_, rfl⟩
      have HPI := Lib.hid (show putAt p = tx ++ numB ix ++ ow ++ numB am by unfold putAt; rw [hix2, ham2, ← htx, ← how])
      have HDT := Lib.hid (show Dig (tx.map B) tx from ⟨rfl, by rw [htx]; exact hok.1.1⟩)
      have HDO := Lib.hid (show Dig (ow.map B) ow from ⟨rfl, by rw [how]; exact hok.2.1⟩)
      have HPC := Lib.hid (ptV_cl hok.1); have HCC := Lib.hid (coinV_cl hok.2)
      have HE32 := Lib.hid (show (ptV p.1)[32]? = some (.int .i64 (ix : Int)) by rw [ptV_ix hok.1.1, hix1])
      have HC32 := Lib.hid (show (coinV p.2)[32]? = some (.int .u64 (am : Int)) by rw [coinV_amt hok.2, ham])
      have HET := Lib.hid (show ∀ j u, (tx.map B)[j]? = some u → (ptV p.1)[0 + j]? = some u from fun j u hu => by
        rw [Nat.zero_add]; unfold ptV; rw [← htx, List.getElem?_append_left (List.getElem?_eq_some_iff.1 hu).1]; exact hu)
      have HEO := Lib.hid (show ∀ j u, (ow.map B)[j]? = some u → (coinV p.2)[0 + j]? = some u from fun j u hu => by
        rw [Nat.zero_add]; unfold coinV; rw [← how, List.getElem?_append_left (List.getElem?_eq_some_iff.1 hu).1]; exact hu)
      have HLK := Lib.hid (show ∀ w', CoinsAt w' g b L s → (Instr.lookup 130 (.map (some b)) (.agg (ptV p.1).toArray) false).run Try.prog w' = .ok (.agg (coinV p.2).toArray) w' from fun w' h' => by
        obtain ⟨c', _, e2, h2⟩ := h'.look0 hok.1
        rw [hlk] at e2
        have : c' = p.2 := e2
        rw [this] at h2
        exact h2)
      obtain ⟨g0, cur, hA, _, _, _, _, hbk, _, _⟩ := HV.out.form (by omega)
      subst hA
      have HMC := Lib.hid (show ∀ j u, (ptV p.1)[j]? = some u → w_.cell? ⟨g0, k * 33 + j, none⟩ = some u from fun j u hu => by
        have h1 := HV.out.at_ hx j u (by unfold encPt; rw [hxp]; exact hu)
        rw [hbk.cell] at h1
        exact (HKQ.out.blk hbk (HVB.out g0 rfl)).at_ h1)
      obtain ⟨es, hes⟩ : ∃ q, q = ptV p.1 := ⟨_, rfl⟩
      obtain ⟨cs, hcs⟩ : ∃ q, q = coinV p.2 := ⟨_, rfl⟩
      rw [← hes] at HPC HE32 HET HLK HMC
      rw [← hcs] at HCC HC32 HEO HLK
      obtain ⟨tb, htb⟩ : ∃ q, q = tx.map B := ⟨_, rfl⟩
      rw [← htb] at HDT HET
      obtain ⟨ob, hob⟩ : ∃ q, q = ow.map B := ⟨_, rfl⟩
      rw [← hob] at HDO HEO
      clear hx hp hxp hmem hok hix hlk hix1 hix2 ham ham2 htx how hes hcs htb hob hbk
      have hlix := numB_le (n := ix) (by omega); have hlam := numB_le (n := am) (by omega)
      have htl : tx.length = 32 := HDT.out.2
      have hol : ow.length = 32 := HDO.out.2
      have HCW := Lib.hid (show CoinsAt w_ g b L s from HC2.out.keptK HKQ.out (.inl hg) (.inl hb))
      have hwz : z2 ≤ w_.heap.size := by rw [HZ2.out]; exact HKQ.out.size
      have HWZ := Lib.hid hwz
      obtain ⟨wq, hwq⟩ : ∃ q, q = w_ := ⟨_, rfl⟩
      have HB := Lib.hid (show Below wq.heap.size wq w_ by rw [hwq]; exact Below.refl _ _)
      rw [← hwq] at HP HKQ HWZ
      clear hwq hwz
      go_wp2_with (first | (with_reducible refine wpl_loadm (o := ⟨some 21, _, _, _, _, _⟩) rfl rfl row_point HMC.out rfl HPC.out.len ?_) | (with_reducible refine wpl_alloc (o := ⟨some 5, _, _, _, _, _⟩) rfl rfl zero_point ?_))
      intro w1_ hb1_ hbw1_ hsz1_
      have HB1_ := Lib.hid (at_mk hb1_ len_point)
      have HBW1_ := Lib.hid hbw1_
      have HZ1_ := Lib.hid hsz1_
      clear hb1_ hbw1_ hsz1_
      go_wp2_with (first | (with_reducible refine wpl_storeb (o := ⟨none, .store _ _ _, _, _, _, _⟩) rfl rfl row_point HB1_.out.blk rfl rfl HB1_.out.len HPC.out.len HPC.out.one ?_))
      intro w2_ hb2_ hg2_ hsz2_
      have HG_ := Lib.hid HB.out.size
      have hb_ := var_grow HBW1_.out HZ1_.out hg2_
      have HX_ := Lib.hid (at_mk hb2_ HPC.out.len)
      clear hb2_ hg2_ hsz2_ HB1_ HBW1_ HZ1_
      have HB_ := Lib.hid (HB.out.grow' hb_)
      clear HB
      have HB := HB_
      clear HB_
      have HCW_ := Lib.hid (HCW.out.grow hb_)
      clear HCW
      have HCW := HCW_
      clear HCW_
      generalize hg_ : w_.heap.size = g5 at HX_ HG_ ⊢
      clear hg_
      have HE := HX_
      clear hb_ HX_
      clear w1_
      try clear w_
      rename World => w_
      have HE_g := HG_
      clear HG_
      clear HMC
      have HEG := Lib.hid (show wq.heap.size ≤ g5 ∧ g5 < w_.heap.size from ⟨HE_g.out, HE.out.lt⟩)
      obtain ⟨g6, hg6⟩ : ∃ q, q = w_.heap.size := ⟨_, rfl⟩
      go_wp2_with fail
      repeat' (first | (with_reducible refine wp_phase (id := 4) (newC w_ 54 (coinV noCoin) cs) [6, 7] [(0,2),(0,2),(0,2),(0,2),(0,2),(0,2),(0,0),(1,1)] (by kernel_rfl) (by kernel_rfl) ?_ ?_) | go_values | go_skip | go_guarded | go_step | go_upon | go_back)
      · exact newC.start
      have HF := Lib.hid (show ∀ k w', newC w_ 54 (coinV noCoin) cs k w' → w'.cell? ⟨g, 0, none⟩ = some (.map (some b)) from fun k w' h => (HCW.out.call (newC.low k w' h)).blk.at_ rfl)
      have HL := Lib.hid (show ∀ k w', newC w_ 54 (coinV noCoin) cs k w' → (Instr.lookup 130 (.map (some b)) (.agg es.toArray) false).run Try.prog w' = .ok (.agg cs.toArray) w' from fun k w' h => HLK.out w' (HCW.out.call (newC.low k w' h)))
      have HX1 := Lib.hid (show ∀ k w', newC w_ 54 (coinV noCoin) cs k w' → Blk w' g5 52 es from fun k w' h => HE.out.blk.call (newC.low k w' h))
      refine ph_value rfl (by first | rfl | go_simp) (fun k_ _ _ w_ hC_ => by first | (go_simp; rfl) | (go_simp; done) | rfl) (fun K hK => ?_)
      go_simp
      refine hK _ ?_
      clear hK K
      refine ph_value rfl (by first | rfl | go_simp) (fun k_ _ _ w_ hC_ => by first | (go_simp; rfl) | (go_simp; done) | rfl) (fun K hK => ?_)
      go_simp
      refine hK _ ?_
      clear hK K
      refine ph_value rfl (by first | rfl | go_simp) (fun k_ _ _ w_ hC_ => by first | (go_simp; rfl) | (go_simp; done) | rfl) (fun K hK => ?_)
      go_simp
      refine hK _ ?_
      clear hK K
      refine ph_value rfl (by first | rfl | go_simp) (fun k_ _ _ w_ hC_ => by have c1 := HF.out _ _ hC_; first | (go_simp; rfl) | (go_simp; done) | rfl) (fun K hK => ?_)
      go_simp
      refine hK _ ?_
      clear hK K
      refine ph_load rfl rfl rfl row_point (fun k _ _ w h => HX1.out k w h) rfl HPC.out.len ?_
      (intro K hK; go_simp; refine hK _ ?_; clear hK K)
      refine ph_value rfl (by first | rfl | go_simp) (fun k_ _ _ w_ hC_ => by have c1 := HL.out _ _ hC_; first | (go_simp; rfl) | (go_simp; done) | rfl) (fun K hK => ?_)
      go_simp
      refine hK _ ?_
      clear hK K
      refine ph_alloc 0 rfl rfl rfl rfl rfl zero_coin newC.lay ?_
      (intro K hK; go_simp; refine hK _ ?_; clear hK K)
      refine ph_store 1 rfl rfl rfl rfl rfl row_coin rfl rfl HCC.out.len HCC.out.one (newC.put (coinV_length noCoin_ok)) ?_
      (intro K hK; go_simp; refine hK _ ?_; clear hK K)
      refine ph_nil ?_
      intro w3 ⟨hl3, hs3, hx3⟩
      rw [← hg6] at hs3 hx3 ⊢
      replace HE := Lib.hid (HE.out.grow hl3)
      have HX := Lib.hid (show At w3 g6 54 33 cs from at_mk hx3 HCC.out.len)
      replace HB := Lib.hid (HB.out.grow' hl3)
      obtain ⟨z3, hz3⟩ : ∃ q, q = wq.heap.size := ⟨_, rfl⟩
      obtain ⟨z4, hz4⟩ : ∃ q, q = w3.heap.size := ⟨_, rfl⟩
      have HKE := Lib.hid (show KS gp z1 z2 z3 z4 g5 ∧ KS gp z1 z2 z3 z4 g6 by
        have h1 := HEG.out
        refine ⟨.inr ⟨by rw [hz3]; exact h1.1, by rw [hz4]; omega⟩, .inr ⟨by rw [hz3, hg6]; omega, by rw [hz4]; omega⟩⟩)
      have HPN := Lib.hid (show PenAt w3 (KS gp z1 z2 z3 z4) gp acc from HP.out.more HB.out (fun j hj => by
        rcases hj with h | h
        · exact .inl h
        · exact .inr (by rw [← hz3, ← hz4]; exact h)))
      have HKN := Lib.hid (show Kept (KR gp z1 z2) w2 w3 from HKQ.out.trans (Kept.of_grow HB.out (fun j hj => by
        have h1 := HWZ.out; have h2 := HGZ.out; have h3 := HZ12.out
        rcases hj with h | h <;> omega)))
      clear hl3 hs3 hx3 HF HL HX1 HCW HB HP HKQ HEG hg6 hz3 hz4 HWZ HE_g HLK
      try clear w_
      try clear wq
      rename World => w_
      have HMT := Lib.hid (show ∀ j u, tb[j]? = some u → w_.cell? ⟨g5, 0 + j, none⟩ = some u from fun j u hu => HE.out.blk.at_ (HET.out j u hu))
      go_wp2_with (first | (with_reducible refine wpl_loadm (o := ⟨some 30, _, _, _, _, _⟩) rfl rfl row_idk HMT.out rfl HDT.out.len ?_))
      clear HMT
      go_wp2_with fail
      refine (pid_any gp (KS gp z1 z2 z3 z4) acc HDT.out _ HPN.out (by omega)).mono ?_
      rintro e w2_ ⟨rfl, hp_, hk_⟩
      replace HPN := Lib.hid hp_
      replace HKN := Lib.hid (HKN.out.trans (hk_.mono (fun j hj => .inl hj)))
      replace HE := Lib.hid (at_mk (hk_.blk HE.out.blk HKE.out.1) HE.out.len)
      replace HX := Lib.hid (at_mk (hk_.blk HX.out.blk HKE.out.2) HX.out.len)
      clear hp_ hk_
      try clear w_
      rename World => w_
      have c1 := HE.out.blk.at_ HE32.out
      have q1 := conv_u64' (n := ix) (by omega)
      go_wp2_with fail
      refine (num_any gp ix (KS gp z1 z2 z3 z4) (acc ++ tx) _ HPN.out (by clear q1; rw [List.length_append]; omega) (by omega)).mono ?_
      rintro e w2_ ⟨rfl, hp_, hk_⟩
      replace HPN := Lib.hid hp_
      replace HKN := Lib.hid (HKN.out.trans (hk_.mono (fun j hj => .inl hj)))
      replace HE := Lib.hid (at_mk (hk_.blk HE.out.blk HKE.out.1) HE.out.len)
      replace HX := Lib.hid (at_mk (hk_.blk HX.out.blk HKE.out.2) HX.out.len)
      clear hp_ hk_
      try clear w_
      rename World => w_
      clear c1 q1
      have HMT := Lib.hid (show ∀ j u, ob[j]? = some u → w_.cell? ⟨g6, 0 + j, none⟩ = some u from fun j u hu => HX.out.blk.at_ (HEO.out j u hu))
      go_wp2_with (first | (with_reducible refine wpl_loadm (o := ⟨some 39, _, _, _, _, _⟩) rfl rfl row_idk HMT.out rfl HDO.out.len ?_))
      clear HMT
      go_wp2_with fail
      refine (pid_any gp (KS gp z1 z2 z3 z4) (acc ++ tx ++ numB ix) HDO.out _ HPN.out (by simp only [List.length_append]; omega)).mono ?_
      rintro e w2_ ⟨rfl, hp_, hk_⟩
      replace HPN := Lib.hid hp_
      replace HKN := Lib.hid (HKN.out.trans (hk_.mono (fun j hj => .inl hj)))
      replace HE := Lib.hid (at_mk (hk_.blk HE.out.blk HKE.out.1) HE.out.len)
      replace HX := Lib.hid (at_mk (hk_.blk HX.out.blk HKE.out.2) HX.out.len)
      clear hp_ hk_
      try clear w_
      rename World => w_
      have c1 := HX.out.blk.at_ HC32.out
      go_wp2_with fail
      refine (num_any gp am (KS gp z1 z2 z3 z4) (acc ++ tx ++ numB ix ++ ow) _ HPN.out (by simp only [List.length_append]; omega) (by omega)).mono ?_
      rintro e w2_ ⟨rfl, hp_, hk_⟩
      replace HPN := Lib.hid hp_
      replace HKN := Lib.hid (HKN.out.trans (hk_.mono (fun j hj => .inl hj)))
      replace HE := Lib.hid (at_mk (hk_.blk HE.out.blk HKE.out.1) HE.out.len)
      replace HX := Lib.hid (at_mk (hk_.blk HX.out.blk HKE.out.2) HX.out.len)
      clear hp_ hk_
      try clear w_
      rename World => w_
      clear c1
      have HREL := Lib.hid (show ∃ acc : List UInt8, PenAt w_ (KR gp z1 z2) gp acc ∧ acc.length ≤ 9 + (k + 1) * 82 ∧ acc = numB n ++ (X.take (k + 1)).flatMap putAt ∧ Kept (KR gp z1 z2) w2 w_ from ⟨acc ++ tx ++ numB ix ++ ow ++ numB am, HPN.out.less (fun j hj => .inl hj), by simp only [List.length_append]; omega, by rw [HSN.out, HPI.out, HAC.out]; simp only [List.append_assoc], HKN.out⟩)
      clear HPN HKN HE HX hlix hlam htl hol
      have v1 : IntKind.i64.wrap ((k : Int) + 1) = (k : Int) + 1 := IntWalk.i64_in _ (by omega)
      go_wp2_with fail
      go_roundw
      all_goals clear v1
      case rel => exact ⟨k + 1, by omega, by go_num, HREL⟩
      case measure => simp [intOf]; omega
    · obtain rfl : k = n := by omega
      have HAE := Lib.hid (show acc = out by have h := HAC.out; rw [List.take_of_length_le (by omega)] at h; rw [HPT.out]; exact h)
      have HEND := Lib.hid (show PenAt w_ (KR gp 0 0) gp out ∧ Below gp w w_ from ⟨by rw [← HAE.out]; exact HP.out.less (fun j hj => by rcases hj with h | h; exact .inl h; omega), HK2.out.trans (HKQ.out.below (fun j hj => .inl hj))⟩)
      go_wp2_with fail
      refine bodyPost_end (results_none rfl _ _ _) rfl ?_
      exact ⟨rfl, HEND.out⟩
end Go.Proofs.Ytolbbhbfbpiljaa

/- The contract of seisinref01.Bytes: the same bytes? -/
namespace Go.Proofs.Ytolbbhbfbpiljaa
open Go.RowKit
set_option linter.unusedVariables false
set_option maxRecDepth 100000 in
set_option maxHeartbeats 1000000 in
theorem bytesq_any {res : Bool} {A A2 : Option Addr} {n c n2 c2 : Nat} {xs ys : List UInt8} (hres : decide (xs = ys) = res) (w : World) (h1 : Sl w w.heap.size 1 A n (xs.map B)) (h2 : Sl w w.heap.size 1 A2 n2 (ys.map B)) (hn : n ≤ 1000000) :
    Calls Try.prog 65 #[.slice A n c, .slice A2 n2 c2] w fun e w' => e = .returned (.bool res) ∧ Below w.heap.size w w' := by
  have H1 := Lib.hid h1; have H2 := Lib.hid h2
  have HL1 := Lib.hid (show xs.length = n by have := h1.len; simpa using this)
  have HL2 := Lib.hid (show ys.length = n2 by have := h2.len; simpa using this)
  have HRES := Lib.hid hres
  clear h1 h2 hres
  by_cases hnn : n = n2
  · subst hnn
    have z1 : ((n : Int) != (n : Int)) = false := by simp
    go_enter Try.func65, Try.ntmps65
    go_wp2_with fail
    go_loopw [5] (fun i wr => ∃ k : Nat, k ≤ n ∧ i = .int .i64 k ∧ Hid (xs.take k = ys.take k) ∧ Hid (Below w.heap.size w wr)) (fun i _ => n - (intOf i).toNat)
    case atStart => exact ⟨0, by omega, rfl, Lib.hid (by simp), Lib.hid (Below.refl _ _)⟩
    case round =>
      obtain ⟨k, hk, rfl, heq, hbw⟩ := hrel
      by_cases hlt : k < n
      · have HB := hbw
        have H1A := Lib.hid ((H1.out.below HB.out).more HB.out.size)
        have H2A := Lib.hid ((H2.out.below HB.out).more HB.out.size)
        obtain ⟨x, hx⟩ : ∃ x, xs[k]? = some x := ⟨_, List.getElem?_eq_getElem (by rw [HL1.out]; exact hlt)⟩
        obtain ⟨y, hy⟩ : ∃ y, ys[k]? = some y := ⟨_, List.getElem?_eq_getElem (by rw [HL2.out]; exact hlt)⟩
        have HX := Lib.hid hx; have HY := Lib.hid hy
        clear hx hy
        by_cases hxy : x = y
        · subst hxy
          try go_wp2_with fail
          repeat' (first | (with_reducible refine wp_plan (id := 6) Grow [0,0,0,2,0,0,0,2,0] (.get 0 (.get 1 (.get 2 (.get 3 (.get 4 (.get 5 (.get 6 (.get 7 (.get 8 .done))))))))) (by kernel_rfl) (by kernel_rfl) Grow.refl Grow.trans ?_) | go_values | go_skip | go_guarded | go_step | go_upon | go_back)
          intro w_ hd_
          have hb_ := hd_.grow
          have HB_ := Lib.hid (HB.out.grow' hb_)
          clear HB
          have HB := HB_
          clear HB_
          have H1A_ := Lib.hid (H1A.out.grow hb_)
          clear H1A
          have H1A := H1A_
          clear H1A_
          have H2A_ := Lib.hid (H2A.out.grow hb_)
          clear H2A
          have H2A := H2A_
          clear H2A_
          clear hb_ hd_
          obtain ⟨b1, o1, u1, rfl, hb1, hu1, hc1⟩ := H1A.out.at_ hlt
          obtain ⟨b2, o2, u2, rfl, hb2, hu2, hc2⟩ := H2A.out.at_ hlt
          obtain rfl : u1 = .int .u8 (b8 x) := by rw [List.getElem?_map, HX.out] at hu1; exact (Option.some.inj hu1).symm
          obtain rfl : u2 = .int .u8 (b8 x) := by rw [List.getElem?_map, HY.out] at hu2; exact (Option.some.inj hu2).symm
          clear hb1 hb2 hu1 hu2
          repeat (first | (refine pl_calm rfl rfl (by first | exact wanted_none rfl | (go_simp; done) | rfl) (fun w_ => by first | (go_simp; rfl) | (go_simp; done) | rfl) (fun K hK => ?_); go_simp; refine hK _ _ ?_; clear hK K) | (refine pl_skip rfl (by first | (go_simp; done) | rfl) (fun K hK => ?_); go_simp; refine hK _ _ ?_; clear hK K) | (refine pl_skipa rfl (by first | (go_simp; done) | rfl) (fun K hK => ?_); go_simp; refine hK _ _ ?_; clear hK K) | (refine pl_load rfl rfl (by first | exact wanted_none rfl | (go_simp; done) | rfl) rfl (by first | rfl | (go_simp; rfl)) (by kernel_rfl) (by first | exact hc1 | exact hc2) (fun K hK => ?_); go_simp; refine hK _ _ ?_; clear hK K) | (refine pl_loadnow rfl rfl (by first | exact wanted_none rfl | (go_simp; done) | rfl) rfl (by first | rfl | (go_simp; rfl)) (by kernel_rfl) (by first | exact hc1 | exact hc2) (fun K hK => ?_); go_simp; refine hK _ _ ?_; clear hK K))
          refine pl_done ?_
          clear hc1 hc2
          have HE := Lib.hid (show xs.take (k + 1) = ys.take (k + 1) by rw [List.take_add_one, List.take_add_one, heq.out, HX.out, HY.out])
          go_wp2_with fail
          go_roundw
          case rel => exact ⟨k + 1, by omega, by go_num, HE, HB⟩
          case measure => simp [intOf]; omega
        · have hbb : ((b8 x) != (b8 y)) = true := by
            have : b8 x ≠ b8 y := fun h => hxy (b8_inj h)
            simpa using this
          have HF := Lib.hid (show res = false by
            rw [← HRES.out]
            have : xs ≠ ys := fun h => by
              subst h
              have h1 := HX.out
              rw [HY.out] at h1
              exact hxy (Option.some.inj h1).symm
            simpa using this)
          have hne : b8 x ≠ b8 y := fun h => hxy (b8_inj h)
          have hq := eq_false hne
          clear hxy
          try go_wp2_with fail
          repeat' (first | (with_reducible refine wp_plan (id := 6) Grow [0,0,0,2,0,0,0,2,0] (.get 0 (.get 1 (.get 2 (.get 3 (.get 4 (.get 5 (.get 6 (.get 7 (.get 8 .done))))))))) (by kernel_rfl) (by kernel_rfl) Grow.refl Grow.trans ?_) | go_values | go_skip | go_guarded | go_step | go_upon | go_back)
          intro w_ hd_
          have hb_ := hd_.grow
          have HB_ := Lib.hid (HB.out.grow' hb_)
          clear HB
          have HB := HB_
          clear HB_
          have H1A_ := Lib.hid (H1A.out.grow hb_)
          clear H1A
          have H1A := H1A_
          clear H1A_
          have H2A_ := Lib.hid (H2A.out.grow hb_)
          clear H2A
          have H2A := H2A_
          clear H2A_
          clear hb_ hd_
          obtain ⟨b1, o1, u1, rfl, hb1, hu1, hc1⟩ := H1A.out.at_ hlt
          obtain ⟨b2, o2, u2, rfl, hb2, hu2, hc2⟩ := H2A.out.at_ hlt
          obtain rfl : u1 = .int .u8 (b8 x) := by rw [List.getElem?_map, HX.out] at hu1; exact (Option.some.inj hu1).symm
          obtain rfl : u2 = .int .u8 (b8 y) := by rw [List.getElem?_map, HY.out] at hu2; exact (Option.some.inj hu2).symm
          clear hb1 hb2 hu1 hu2
          repeat (first | (refine pl_calm rfl rfl (by first | exact wanted_none rfl | (go_simp; done) | rfl) (fun w_ => by first | (go_simp; rfl) | (go_simp; done) | rfl) (fun K hK => ?_); go_simp; refine hK _ _ ?_; clear hK K) | (refine pl_skip rfl (by first | (go_simp; done) | rfl) (fun K hK => ?_); go_simp; refine hK _ _ ?_; clear hK K) | (refine pl_skipa rfl (by first | (go_simp; done) | rfl) (fun K hK => ?_); go_simp; refine hK _ _ ?_; clear hK K) | (refine pl_load rfl rfl (by first | exact wanted_none rfl | (go_simp; done) | rfl) rfl (by first | rfl | (go_simp; rfl)) (by kernel_rfl) (by first | exact hc1 | exact hc2) (fun K hK => ?_); go_simp; refine hK _ _ ?_; clear hK K) | (refine pl_loadnow rfl rfl (by first | exact wanted_none rfl | (go_simp; done) | rfl) rfl (by first | rfl | (go_simp; rfl)) (by kernel_rfl) (by first | exact hc1 | exact hc2) (fun K hK => ?_); go_simp; refine hK _ _ ?_; clear hK K))
          refine pl_done ?_
          clear hc1 hc2
          go_wp2_with fail
          go_ret
          exact ⟨by rw [HF.out]; rfl, HB.out⟩
      · obtain rfl : k = n := by omega
        have HT := Lib.hid (show res = true by
          rw [← HRES.out]
          have h := heq.out
          rw [List.take_of_length_le (by rw [HL1.out]; exact Nat.le_refl _), List.take_of_length_le (by rw [HL2.out]; exact Nat.le_refl _)] at h
          simpa using h)
        go_wp2_with fail
        go_ret
        exact ⟨by rw [HT.out]; rfl, hbw.out⟩
  · have z1 : ((n : Int) != (n2 : Int)) = true := by simp; omega
    have HF := Lib.hid (show res = false by
      rw [← HRES.out]
      have : xs ≠ ys := fun h => by subst h; exact hnn (by rw [← HL1.out, ← HL2.out])
      simpa using this)
    have hz : ¬ ((n : Int) = (n2 : Int)) := by omega
    have hzq := eq_false hz
    go_enter Try.func65, Try.ntmps65
    go_wp2_with fail
    go_ret
    exact ⟨by rw [HF.out]; rfl, Below.refl _ _⟩
end Go.Proofs.Ytolbbhbfbpiljaa

/- Arguments opened: arrays of bytes, as the row's reading gives them. -/
namespace Go.Proofs.Ytolbbhbfbpiljaa
open Go.RowKit Go.ChangeShapes Go.WideShapes
set_option linter.unusedVariables false
section
variable {H : Type} {enc : TypeId × Value → H} {P : Program} {w : World} {base : Nat} {spare : Nat → Bool} {held : Bool}

theorem trod_bytes {t e : TypeId} {n : Nat} {fuel : Nat} {cs : List Value} {x : DataW H × List MemPlace} (ht : P.underlying t = some (.array n e)) (he : P.underlying e = some (.int .u8)) (hce : P.cellsOf e = 1) (hct : P.cellsOf t = n)
    (h : DataW.trod enc P w base spare held fuel t cs = some x) : ∃ ds : List UInt8, cs = ds.map B ∧ ds.length = n := by
  obtain ⟨xs, m, rfl, rfl, hl, hxl, hi⟩ := DataW.trod_array ht h
  rw [hct] at hl
  refine ⟨cs.map (fun v => match v with | .int _ z => UInt8.ofNat z.toNat | _ => 0), ?_, by rw [List.length_map, hl]⟩
  apply List.ext_getElem?
  intro i
  by_cases hin : i < n
  · have h1 := hi i hin
    rw [hce, Nat.mul_one, List.getElem?_eq_getElem (by omega)] at h1
    obtain ⟨z, h2, _, h3⟩ := DataW.trod_int he h1
    have h4 : cs[i]? = some (.int .u8 z) := by
      have := congrArg List.head? h2
      rw [List.take_one] at this
      simpa using this
    have hz := bounds_u8 h3
    rw [List.getElem?_map, List.getElem?_map, h4]
    simp only [Option.map_some, B, b8]
    congr 2
    rw [UInt8.toNat_ofNat']
    omega
  · rw [List.getElem?_eq_none (by omega), List.getElem?_eq_none (by simp; omega)]
end


theorem open_arr32 {H : Type} {enc : TypeId × Value → H} {P : Program} {w : World} {r : Reach} {b0 base : Nat} {spare : Nat → Bool} {held : Bool} {t e : TypeId} {v : Value} {d : DataW H} {ps : List MemPlace}
    (ht : P.underlying t = some (.array 32 e)) (he : P.underlying e = some (.int .u8)) (hce : P.cellsOf e = 1) (hct : P.cellsOf t = 32) (hval : Value.okWide P w r b0 t v) (h : DataW.Trod enc P w base spare held t v d ps) :
    ∃ ds : List UInt8, v = .agg (ds.map B).toArray ∧ ds.length = 32 := by
  simp only [Value.okWide, ht] at hval
  obtain ⟨cs, rfl, hsz, _⟩ := hval
  obtain ⟨fuel, hf⟩ := h
  obtain ⟨ds, h1, h2⟩ := trod_bytes ht he hce hct hf
  refine ⟨ds, ?_, h2⟩
  simp only [Value.cells] at h1
  rw [← h1]
end Go.Proofs.Ytolbbhbfbpiljaa

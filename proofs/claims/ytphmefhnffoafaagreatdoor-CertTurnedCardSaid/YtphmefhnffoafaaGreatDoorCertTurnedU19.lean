/- Arguments opened: headers and entries. -/
import Derived.Test.YtphmefhnffoafaaGreatDoorCertTurnedU7
import Derived.Test.YtphmefhnffoafaaGreatDoorCertTurnedU18
import Derived.Test.YtphmefhnffoafaaGreatDoorCertTurnedU13
import Derived.Test.YtphmefhnffoafaaGreatDoorCertTurnedU1
import Derived.Great.FillDense
import Derived.Laws.CopyOwn
import Derived.Laws.Tables
import Derived.Test.YtphmefhnffoafaaGreatDoorCertTurnedU9
set_option linter.unusedSimpArgs false
namespace Go.Proofs.YtphmefhnffoafaaGreatDoor
open Go.RowKit Go.ChangeShapes Go.WideShapes
set_option linter.unusedVariables false
set_option maxRecDepth 100000
section
variable {H : Type} {enc : TypeId × Value → H} {w : World} {r : Reach} {b0 base : Nat} {spare : Nat → Bool} {held : Bool}
theorem i64_of {z : Int} (h : (Lit.int .i64 z).wf = true) : I64 z := bounds_i64 h
theorem u64_of {z : Int} (h : (Lit.int .u64 z).wf = true) : U64 z := by
 simp [Lit.wf, IntKind.min, IntKind.max, IntKind.signed, IntKind.bits] at h; exact ⟨by omega, by omega⟩
theorem got {α : Type} {o : Option α} {xs : List α} {i : Nat} (h : o = xs[i]?) (hi : i < xs.length) : ∃ y, o = some y := ⟨_, h.trans (List.getElem?_eq_getElem hi)⟩
theorem cut_eq {xs : List Value} {o n : Nat} {l rest : List Value} (h : (xs.drop o).take n = l) (hr : xs.drop (o + n) = rest) : xs.drop o = l ++ rest := by
 rw [← List.take_append_drop n (xs.drop o), h, List.drop_drop, hr]
theorem open_ent {v : Value} {d : DataW H} {ps : List MemPlace} (hval : Value.okWide Tryz.prog w r b0 27 v) (h : DataW.Trod enc Tryz.prog w base spare held 27 v d ps) :
  ∃ x : Ent, v = .agg (entV x).toArray ∧ x.ok := by
 obtain ⟨cs, rfl, hsz⟩ := okWide_struct Tryz.underlying27 hval
 obtain ⟨fuel, hf⟩ := h
 rw [cells_entry] at hsz
 obtain ⟨xs, n, _, _, hl, hxs, hg⟩ := DataW.trod_struct Tryz.underlying27 hf
 replace hg := fun i f h => hg i f h
 have hxs5 : xs.length = 6 := hxs
 obtain ⟨y0, h0⟩ := got (hg 0 _ rfl) (by omega)
 obtain ⟨y1, h1⟩ := got (hg 1 _ rfl) (by omega)
 obtain ⟨y2, h2⟩ := got (hg 2 _ rfl) (by omega)
 obtain ⟨y3, h3⟩ := got (hg 3 _ rfl) (by omega)
 obtain ⟨y4, h4⟩ := got (hg 4 _ rfl) (by omega)
 obtain ⟨y5, h5⟩ := got (hg 5 _ rfl) (by omega)
 replace h0 : DataW.trod enc Tryz.prog w base spare held n 3 ((cs.toList.drop 0).take (Tryz.prog.cellsOf 3)) = some y0 := h0
 replace h1 : DataW.trod enc Tryz.prog w base spare held n 3 ((cs.toList.drop 1).take (Tryz.prog.cellsOf 3)) = some y1 := h1
 replace h2 : DataW.trod enc Tryz.prog w base spare held n 24 ((cs.toList.drop 2).take (Tryz.prog.cellsOf 24)) = some y2 := h2
 replace h3 : DataW.trod enc Tryz.prog w base spare held n 25 ((cs.toList.drop 34).take (Tryz.prog.cellsOf 25)) = some y3 := h3
 replace h4 : DataW.trod enc Tryz.prog w base spare held n 3 ((cs.toList.drop 35).take (Tryz.prog.cellsOf 3)) = some y4 := h4
 replace h5 : DataW.trod enc Tryz.prog w base spare held n 3 ((cs.toList.drop 36).take (Tryz.prog.cellsOf 3)) = some y5 := h5
 rw [cells_int] at h0
 rw [cells_int] at h1
 rw [cells_id] at h2
 rw [cells_u64] at h3
 rw [cells_int] at h4
 rw [cells_int] at h5
 obtain ⟨z0, e0, _, w0⟩ := DataW.trod_int Tryz.underlying3 h0
 obtain ⟨z1, e1, _, w1⟩ := DataW.trod_int Tryz.underlying3 h1
 obtain ⟨d2, e2, l2⟩ := trod_bytes Tryz.underlying24 Tryz.underlying5 cells_u8 cells_id h2
 obtain ⟨z3, e3, _, w3⟩ := DataW.trod_int Tryz.underlying25 h3
 obtain ⟨z4, e4, _, w4⟩ := DataW.trod_int Tryz.underlying3 h4
 obtain ⟨z5, e5, _, w5⟩ := DataW.trod_int Tryz.underlying3 h5
 refine ⟨⟨z0, z1, d2, z3, z4, z5⟩, ?_, i64_of w0, i64_of w1, l2, u64_of w3, i64_of w4, i64_of w5⟩
 have hls : cs.toList.length = 37 := by simpa using hsz
 have : cs.toList = entV ⟨z0, z1, d2, z3, z4, z5⟩ := by
  have a6 : cs.toList.drop 37 = [] := List.drop_of_length_le (by omega)
  have a5 := cut_eq e5 a6
  have a4 := cut_eq e4 a5
  have a3 := cut_eq e3 a4
  have a2 := cut_eq e2 a3
  have a1 := cut_eq e1 a2
  have a0 := cut_eq e0 a1
  rw [List.drop_zero] at a0
  rw [a0]; simp [entV]
 rw [← this]
end
end Go.Proofs.YtphmefhnffoafaaGreatDoor
namespace Go.Proofs.YtphmefhnffoafaaGreatDoor
open Go.RowKit Go.ChangeShapes Go.WideShapes
set_option linter.unusedVariables false
set_option maxRecDepth 100000
section
variable {H : Type} {enc : TypeId × Value → H} {w : World} {r : Reach} {b0 base : Nat} {spare : Nat → Bool} {held : Bool}
end
end Go.Proofs.YtphmefhnffoafaaGreatDoor
namespace Go.Proofs.YtphmefhnffoafaaGreatDoor
open Go.RowKit Go.ChangeShapes Go.WideShapes
set_option linter.unusedVariables false
set_option maxRecDepth 100000
theorem row_cert : RowT Tryz.prog 35 137 := ⟨_, Tryz.underlying35, by kernel_rfl, by kernel_rfl⟩
section
variable {H : Type} {enc : TypeId × Value → H} {w : World} {r : Reach} {b0 base : Nat} {spare : Nat → Bool} {held : Bool}
end
end Go.Proofs.YtphmefhnffoafaaGreatDoor
namespace Go.Proofs.YtphmefhnffoafaaGreatDoor
open Go.RowKit Go.Shelf
set_option linter.unusedVariables false
def numsB (s h p : Nat) (k : Nat) : List UInt8 := if k = 0 then [] else if k = 1 then numB s else if k = 2 then numB s ++ numB h else numB s ++ numB h ++ numB p
set_option maxRecDepth 100000 in
set_option maxHeartbeats 2000000 in
theorem hput_any (x : Hdr) (w : World) (hx : x.ok) : Calls Tryz.prog 23 #[.agg (hdrV x).toArray] w fun e w' => ∃ A c, e = .returned (.tuple #[.slice A (hformB x).length c, .bool (rightH x)]) ∧ Sl w' w'.heap.size 1 A (hformB x).length ((hformB x).map B) ∧ (hformB x).length ≤ c ∧ Grow w w' := by
 have HR := kp (fun w => hright_any x w hx)
 have HXO := kp hx
 have HL := kp (hdrV_length hx)
 obtain ⟨r, hr⟩ : ∃ r, r = rightH x := ⟨_, rfl⟩
 have HRR := kp hr
 unfold hformB
 rw [← hr] at HR ⊢
 clear hr hx
 obtain ⟨cs, hcs⟩ : ∃ cs, cs = hdrV x := ⟨_, rfl⟩
 have HCS := kp hcs
 rw [← hcs] at HR HL ⊢
 clear hcs
 obtain ⟨gh, hgh⟩ : ∃ gh, gh = w.heap.size := ⟨_, rfl⟩
 have HG := kp hgh
 go_enter Tryz.func23, Tryz.ntmps23
 go_wp2_with (first | (with_reducible refine wpl_box (o := ⟨some 1, _, _, _, _, _⟩) rfl rfl rfl ?_))
 intro w1 hb1 hbw1 hsz1
 rw [← hgh] at hb1 hbw1 hsz1 ⊢
 have HH := kp hb1
 have HB := kp (show Grow w w1 by rw [hgh] at hbw1; exact hbw1)
 clear hb1 hbw1 hsz1 hgh
 go_wp2_with (first | (with_reducible refine wpl_loadb (o := ⟨some 7, _, _, _, _, _⟩) rfl rfl row_header HH.out rfl HL.out ?_))
 refine (HR.out _).mono ?_
 rintro e w_ ⟨rfl, hb_⟩
 replace HH := kp (HH.out.call hb_)
 replace HB := kp (HB.out.grow' hb_)
 clear hb_
 try clear w1
 cases r with
 | false =>
  go_wp2_with fail
  go_ret2
  exact ⟨none, ⟨0, rfl⟩, Sl.nil, HB.out⟩
 | true =>
  obtain ⟨⟨hs1, hs2⟩, ⟨hh1, hh2⟩, hp1, hp2⟩ := rightH_iff.1 HRR.out.symm
  obtain ⟨_, _, _, hpl, hrl⟩ := HXO.out
  obtain ⟨xs, xh, xp, prev, root⟩ := x
  obtain ⟨ns, rfl⟩ := nat_of hs1
  obtain ⟨nh, rfl⟩ := nat_of (show 0 ≤ xh by simp only at hh1; omega)
  obtain ⟨np, rfl⟩ := nat_of hp1
  simp only at hs2 hh1 hh2 hp2 hpl hrl
  have hDP := kp (dig_map hpl)
  have hDR := kp (dig_map hrl)
  have us := conv_u64 (n := ns) (by omega); have uh := conv_u64 (n := nh) (by omega); have up := conv_u64 (n := np) (by omega)
  have ls := numB_le (n := ns) (by omega); have lh := numB_le (n := nh) (by omega); have lp := numB_le (n := np) (by omega)
  have HFE := kp (show putHB ⟨(ns : Int), (nh : Int), (np : Int), prev, root⟩ = numB ns ++ numB nh ++ numB np ++ prev ++ root by unfold putHB; simp only [Int.toNat_natCast])
  go_wp2_with (first | (with_reducible refine wpl_alloc (o := ⟨some 4, _, _, _, _, _⟩) rfl rfl zero_pen ?_))
  intro w3 hb3 hbw3 hsz3
  obtain ⟨g, hg⟩ : ∃ g, g = w_.heap.size := ⟨_, rfl⟩
  rw [← hg] at hb3 hsz3 hbw3 ⊢
  have HHB := kp (HH.out.below hbw3 (by have := HH.out.lt; omega))
  have HB3 := kp (show Grow w w3 from HB.out.grow' (by rw [hg] at hbw3; exact hbw3))
  have hghlt := HH.out.lt
  have hwlt := HB.out.size
  rw [HCS.out] at HHB
  clear HH HB HR HRR HL HCS
  have HPB := kp hb3
  have c0 := HHB.out.at_ (hdr_at HXO.out).1
  have c1 := HHB.out.at_ (hdr_at HXO.out).2.1
  have c2 := HHB.out.at_ (hdr_at HXO.out).2.2
  clear hb3 hbw3
  go_wp2_with fail
  generalize hw4 : World.alloc w3 _ = w4
  obtain ⟨hX, hb, hs⟩ := alloc_eq hw4
  have hgr2 : w_.heap.size + 1 = w3.heap.size := by omega
  rw [hgr2]
  obtain ⟨gr, hgr⟩ : ∃ gr, gr = w3.heap.size := ⟨_, rfl⟩
  rw [← hg, ← hgr]
  rw [← hgr] at hX hs
  clear hgr2
  obtain ⟨K, hK⟩ : ∃ K : Nat → Prop, K = fun k => k < g ∨ k = gr := ⟨_, rfl⟩
  have hKI : ∀ k, K k ↔ (k < g ∨ k = gr) := fun k => by rw [hK]
  have HP := kp (PenAt.new (K := K) (HPB.out.grow hb) (fun k hk => by have := (hKI k).1 hk; omega))
  have HKH := kp (show K gh from (hKI gh).2 (.inl (by omega)))
  have HKG := kp (show K gr from (hKI gr).2 (.inr rfl))
  have HKW := kp (show ∀ k, k < w.heap.size → K k from fun k hk => (hKI k).2 (.inl (by omega)))
  have HB4 := kp (show Grow w w4 from HB3.out.grow' hb)
  have HH4 := kp (HHB.out.grow hb)
  have HRW := kp (show Blk w4 gr 3 [.int .i64 (ns : Int), .int .i64 (nh : Int), .int .i64 (np : Int)] from hX)
  clear hX hb hs hw4 hgr hK hKI HPB HHB HB3 c0 c1 c2 hghlt hwlt hsz3 hg
  go_loopw [18] (fun iv wr => ∃ k : Nat, k ≤ 3 ∧ iv = .int .i64 k ∧ Hid (PenAt wr K g (numsB ns nh np k)) ∧ Hid (Kept K w4 wr)) (fun iv _ => 3 - (intOf iv).toNat)
  case atStart => exact ⟨0, by omega, rfl, HP, Kept.refl _ _⟩
  case round =>
   obtain ⟨k, hk, rfl, hp, hkk⟩ := hrel
   have HRW2 := kp (hkk.out.blk HRW.out HKG.out)
   obtain rfl | rfl | rfl | rfl : k = 0 ∨ k = 1 ∨ k = 2 ∨ k = 3 := by omega
   ·have cr := HRW2.out.at_ (i := 0) rfl
    go_wp2_with fail
    refine (num_any g ns K ([]) _ hp.out (by simp) (by omega)).mono ?_
    rintro e w5 ⟨rfl, hp5, hk5⟩
    have HP5 := kp (show PenAt w5 K g (numsB ns nh np 1) from hp5)
    have HK5 := kp (hkk.out.trans hk5)
    clear hp5 hk5 cr
    go_wp2_with fail
    go_roundw
    case rel => exact ⟨1, by omega, rfl, HP5, HK5⟩
    case measure => simp [intOf]
   ·have cr := HRW2.out.at_ (i := 1) rfl
    go_wp2_with fail
    refine (num_any g nh K (numB ns) _ hp.out (by omega) (by omega)).mono ?_
    rintro e w5 ⟨rfl, hp5, hk5⟩
    have HP5 := kp (show PenAt w5 K g (numsB ns nh np 2) from hp5)
    have HK5 := kp (hkk.out.trans hk5)
    clear hp5 hk5 cr
    go_wp2_with fail
    go_roundw
    case rel => exact ⟨2, by omega, rfl, HP5, HK5⟩
    case measure => simp [intOf]
   ·have cr := HRW2.out.at_ (i := 2) rfl
    go_wp2_with fail
    refine (num_any g np K (numB ns ++ numB nh) _ hp.out (by simp only [List.length_append]; omega) (by omega)).mono ?_
    rintro e w5 ⟨rfl, hp5, hk5⟩
    have HP5 := kp (show PenAt w5 K g (numsB ns nh np 3) from hp5)
    have HK5 := kp (hkk.out.trans hk5)
    clear hp5 hk5 cr
    go_wp2_with fail
    go_roundw
    case rel => exact ⟨3, by omega, rfl, HP5, HK5⟩
    case measure => simp [intOf]
   ·have HP := kp (show PenAt wr K g (numB ns ++ numB nh ++ numB np) from hp.out)
    have HKK := hkk
    have HH := kp (hkk.out.blk HH4.out HKH.out)
    clear HRW2 hp hkk HRW HH4
    obtain ⟨w_, hw_⟩ : ∃ w_ : World, w_ = wr := ⟨_, rfl⟩
    subst hw_
    have hm_ := midP HXO.out HH.out
    go_wp2_with (first | (with_reducible refine wpl_loadm (o := ⟨some 27, _, _, _, _, _⟩) rfl rfl row_aid hm_ rfl (by rw [List.length_map]; exact hpl) ?_))
    refine (pid_any g K (numB ns ++ numB nh ++ numB np) hDP.out _ HP.out (by simp only [List.length_append]; omega)).mono ?_
    rintro e w2_ ⟨rfl, hp_, hk_⟩
    have HH_ := kp (hk_.blk HH.out HKH.out)
    have HKK_ := kp (HKK.out.trans hk_)
    have HP_ := kp hp_
    clear hp_ hk_ HH HKK HP
    have HH := HH_
    have HKK := HKK_
    have HP := HP_
    clear HH_ HKK_ HP_
    try clear w_
    rename World => w_
    try clear hm_
    have hm_ := midR HXO.out HH.out
    go_wp2_with (first | (with_reducible refine wpl_loadm (o := ⟨some 30, _, _, _, _, _⟩) rfl rfl row_aid hm_ rfl (by rw [List.length_map]; exact hrl) ?_))
    refine (pid_any g K (numB ns ++ numB nh ++ numB np ++ prev) hDR.out _ HP.out (by simp only [List.length_append]; omega)).mono ?_
    rintro e w2_ ⟨rfl, hp_, hk_⟩
    have HH_ := kp (hk_.blk HH.out HKH.out)
    have HKK_ := kp (HKK.out.trans hk_)
    have HP_ := kp hp_
    clear hp_ hk_ HH HKK HP
    have HH := HH_
    have HKK := HKK_
    have HP := HP_
    clear HH_ HKK_ HP_
    try clear w_
    rename World => w_
    try clear hm_
    go_wp2_with fail
    refine (pbytes_any g K (numB ns ++ numB nh ++ numB np ++ prev ++ root) _ HP.out (by simp only [List.length_append]; omega)).mono ?_
    rintro e w6 ⟨A', c', rfl, ho, hc, hg5⟩
    have HO := kp (Sl.of_own ho)
    have HC := kp hc
    have HB6 := kp (show Grow w w6 from (Below.trans (B := w.heap.size) HB4.out (HKK.out.below HKW.out)).grow' hg5)
    clear ho hc hg5
    go_wp2_with fail
    go_ret2
    rw [HFE.out]
    exact ⟨A', c', by simp [List.length_append, hpl, hrl], HO.out, HC.out, HB6.out⟩
open Go.RowKit
theorem fill_nil {place : Nat → Option (Nat × Nat)} {cells : List Value} : Instr.fill place cells.toArray [] = some cells.toArray := rfl
theorem splice_get {α : Type} (L cs : List α) (off k : Nat) (h : off + cs.length ≤ L.length) : (splice L off cs)[k]? = if off ≤ k ∧ k < off + cs.length then cs[k - off]? else L[k]? := by
 unfold splice
 have hl : (L.take off).length = off := by rw [List.length_take]; omega
 by_cases h1 : k < off
 ·rw [if_neg (by omega), List.getElem?_append_left (by omega), List.getElem?_take, if_pos h1]
 ·rw [List.getElem?_append_right (by omega), hl]
  by_cases h2 : k - off < cs.length
  ·rw [if_pos (by omega), List.getElem?_append_left h2]
  ·rw [if_neg (by omega), List.getElem?_append_right (by omega), List.getElem?_drop]
   congr 1; omega
theorem fill_cons {place : Nat → Option (Nat × Nat)} {cells cs : List Value} {i off s : Nat} {v : Value} {rest : List (Nat × Value)} (hp : place i = some (off, s)) (hv : v.cells = cs.toArray) (hs : cs.length = s) (hle : off + s ≤ cells.length) :
  Instr.fill place cells.toArray ((i, v) :: rest) = Instr.fill place (splice cells off cs).toArray rest := by
 conv => lhs; unfold Instr.fill
 simp only [hp]
 have hsz : v.cells.size = s := by rw [hv]; simpa using hs
 rw [if_neg (by simp [hsz]; omega)]
 congr 1
 obtain ⟨h1, h2⟩ := Great.foldl_set off cs 0 cells.toArray
 have e : (v.cells.zipIdx.foldl (fun cs (x : Value × Nat) => cs.setIfInBounds (off + x.2) x.1) cells.toArray) = ((cs.zipIdx 0).foldl (fun cs (x : Value × Nat) => cs.setIfInBounds (off + x.2) x.1) cells.toArray) := by
  rw [hv, ← Array.foldl_toList, Array.toList_zipIdx]
 refine Eq.trans e ?_
 apply Array.ext_getElem?
 intro k
 rw [h2 k]
 simp only [Nat.add_zero, List.size_toArray, List.getElem?_toArray]
 rw [splice_get _ _ _ _ (by omega)]
 by_cases hk : off ≤ k ∧ k < off + cs.length
 ·rw [if_pos ⟨hk.1, hk.2, by omega⟩, if_pos hk]
 ·rw [if_neg (fun h => hk ⟨h.1, h.2.1⟩), if_neg hk]
theorem splice_mid {α : Type} {pre old post new : List α} {off : Nat} (h1 : pre.length = off) (h2 : old.length = new.length) : splice (pre ++ (old ++ post)) off new = pre ++ (new ++ post) := by
 unfold splice
 rw [← h1, List.take_left, ← h2, ← List.drop_drop, List.drop_left, List.drop_left]
section
variable {P : Program} {ops : Array Oper} {rest : List Oper} {o : Oper} {a : Act} {w : World} {Q : Exit → Act → World → Prop}
theorem exec_build {ev : Operand → Value} {t : TypeId} {parts : Array (Nat × Operand)} {cells : List Value} (ho : o.op = .build t parts) (h : P.built t (parts.toList.map fun (i, x) => (i, ev x)) = some cells.toArray) (w : World) :
  (execOp ev o).run P w = .ok (.value (.agg cells.toArray)) w := by
 unfold execOp
 simp only [ho, Sem.run_bind, run_build w t (parts.map fun (i, x) => (i, ev x)) _ (by rw [Array.toList_map]; exact h), Result.andThen_ok]
 rfl
theorem wpl_build (hgd : o.guard = none) {t : TypeId} {parts : Array (Nat × Operand)} (ho : o.op = .build t parts) {cells : List Value} (h : P.built t (parts.toList.map fun (i, x) => (i, a.eval x)) = some cells.toArray)
  (hk : wpList P ops Q rest (a.put o.dst (.agg cells.toArray)) w) : wpList P ops Q (o :: rest) a w := by
 refine wpList_plain hgd fun K hK => ?_
 unfold Oper.wp
 rw [exec_build ho h w]
 exact hK _ _ hk
end
end Go.Proofs.YtphmefhnffoafaaGreatDoor
namespace Go.Proofs.YtphmefhnffoafaaGreatDoor
open Go.RowKit Go.Shelf
set_option linter.unusedVariables false
theorem built_id0 : Tryz.prog.built 24 [] = some (zeroD.map B).toArray := by kernel_rfl
set_option maxRecDepth 100000 in
set_option maxHeartbeats 1000000 in
theorem hid_any (x : Hdr) {zs : List Value} (hz : Dig zs (hidB x)) (w : World) (hx : x.ok) (ht : Tabs w) : Calls Tryz.prog 48 #[.agg (hdrV x).toArray] w fun e w' => e = .returned (.agg zs.toArray) ∧ Below w.heap.size w w' := by
 have HP := kp (fun w => hput_any x w hx)
 have HT := kp ht
 have HL := kp (hdrV_length hx)
 have HZ := kp hz
 have HPL := kp (fun h => putHB_len hx h)
 obtain ⟨r, hr⟩ : ∃ r, r = rightH x := ⟨_, rfl⟩
 have HRR := kp hr
 unfold hformB at HP
 rw [← hr] at HP
 clear hr hx hz ht
 obtain ⟨cs, hcs⟩ : ∃ cs, cs = hdrV x := ⟨_, rfl⟩
 rw [← hcs] at HP HL ⊢
 clear hcs
 obtain ⟨gh, hgh⟩ : ∃ gh, gh = w.heap.size := ⟨_, rfl⟩
 have HG := kp hgh
 go_enter Tryz.func48, Tryz.ntmps48
 go_wp2_with (first | (with_reducible refine wpl_box (o := ⟨some 1, _, _, _, _, _⟩) rfl rfl rfl ?_))
 intro w1 hb1 hbw1 hsz1
 rw [← hgh] at hb1 hbw1 hsz1 ⊢
 clear hgh
 go_wp2_with (first | (with_reducible refine wpl_alloc (o := ⟨some 2, _, _, _, _, _⟩) rfl rfl zero_id ?_))
 intro w2 hb2 hbw2 hsz2
 have HH := kp (hb1.below hbw2 (by omega))
 have HV := kp (at_mk hb2 len_id)
 have HB := kp (show Grow w w2 by rw [HG.out] at hbw1; exact Below.trans hbw1 (hbw2.mono (by have := HG.out; omega)))
 have HVG := kp (show w.heap.size ≤ gh + 1 by have := HG.out; omega)
 clear hb1 hb2 hbw1 hbw2 hsz1 hsz2
 go_wp2_with (first | (with_reducible refine wpl_loadb (o := ⟨some 6, _, _, _, _, _⟩) rfl rfl row_header HH.out rfl HL.out ?_))
 refine (HP.out _).mono ?_
 rintro e w_ ⟨A, c, rfl, hs, hc, hb_⟩
 have HS := kp hs; have HC := kp hc
 replace HV := kp (HV.out.grow hb_)
 replace HT := kp (HT.out.grow (HB.out.grow' hb_))
 replace HB := kp (HB.out.grow' hb_)
 clear hb_ HH hs hc HP
 try clear w2
 cases r with
 | false =>
  have HZ0 := kp (show zs = zeroD.map B by have h := HZ.out.1; unfold hidB at h; rw [← HRR.out] at h; exact h)
  have T0 := kp built_id0
  rw [← HZ0.out] at T0
  go_wp2_with (first | (refine wpl_build (o := ⟨some 12, _, _, _, _, _⟩) rfl rfl T0.out ?_) | (with_reducible refine wpl_storeb (o := ⟨none, .store _ _ _, _, _, _, _⟩) rfl rfl row_id HV.out.blk rfl rfl HV.out.len HZ.out.len HZ.out.one ?_))
  intro w4 hb4 hg4 hs4
  have HB4 := kp hb4
  have HBB := kp (put_below HB.out HVG.out hg4)
  clear hb4 hg4 hs4
  go_wp2_with fail
  refine ret_cell rfl row_id HB4.out rfl HZ.out.len rfl ?_
  exact ⟨rfl, HBB.out⟩
 | true =>
  have HZ1 := kp (show Dig zs (sha (underB 11 [putHB x])) by have h := HZ.out; unfold hidB at h; rw [if_pos HRR.out.symm] at h; exact h)
  have HLL := HPL.out HRR.out.symm
  have HSx := kp (show Sl w_ w_.heap.size 1 A (putHB x).length ((putHB x).map B) from HS.out)
  have HCx := kp (show (putHB x).length ≤ c from HC.out)
  clear HS HC
  simp only [if_true]
  go_wp2_with fail
  generalize hw_ : World.alloc w_ _ = w4
  obtain ⟨hX, hb, hs⟩ := alloc_eq hw_
  have HX := kp hX
  have HV4 := kp (HV.out.grow hb)
  have HB4 := kp (HB.out.grow' hb)
  have HT4 := kp (HT.out.grow hb)
  have HS4 := kp (HSx.out.grow hb)
  clear hX hb hs hw_ HV HB HT HSx
  refine (punder_any (m := 11) HZ1.out (parts1 HX.out HS4.out HCx.out) (by omega) (fun l hl => by simp only [List.mem_cons, List.not_mem_nil, or_false] at hl; rw [hl]; exact Nat.le_trans (HPL.out HRR.out.symm) (by omega)) HT4.out).mono ?_
  rintro e w5 ⟨rfl, hb5⟩
  have HV5 := kp (HV4.out.grow hb5)
  have HB5 := kp (HB4.out.grow' hb5)
  clear hb5 HV4 HB4
  go_wp2_with (first | (with_reducible refine wpl_storeb (o := ⟨none, .store _ _ _, _, _, _, _⟩) rfl rfl row_id HV5.out.blk rfl rfl HV5.out.len HZ.out.len HZ.out.one ?_))
  intro w6 hb6 hg6 hs6
  have HB6 := kp hb6
  have HBB := kp (put_below HB5.out HVG.out hg6)
  clear hb6 hg6 hs6
  go_wp2_with fail
  refine ret_cell rfl row_id HB6.out rfl HZ.out.len rfl ?_
  exact ⟨rfl, HBB.out⟩
set_option maxRecDepth 100000 in
set_option maxHeartbeats 1000000 in
theorem rhright_any (x : Hdr) (w : World) (hx : x.ok) : Calls Tryz.prog 34 #[.agg (hdrV x).toArray] w fun e w' => e = .returned (.bool (rightH x)) ∧ Below w.heap.size w w' := by
 obtain ⟨res, hres⟩ : ∃ res, res = rightH x := ⟨_, rfl⟩
 rw [← hres]
 unfold rightH inB at hres
 have HA := kp (hdr_at hx)
 obtain ⟨cs, hcs⟩ : ∃ cs, cs = hdrV x := ⟨_, rfl⟩
 rw [← hcs] at HA ⊢
 clear hcs hx
 obtain ⟨k0, hk0⟩ : ∃ k, k = x.shard := ⟨_, rfl⟩
 obtain ⟨k1, hk1⟩ : ∃ k, k = x.height := ⟨_, rfl⟩
 obtain ⟨k2, hk2⟩ : ∃ k, k = x.epoch := ⟨_, rfl⟩
 rw [← hk0, ← hk1, ← hk2] at HA hres
 clear hk0 hk1 hk2
 obtain ⟨b0, hb0⟩ : ∃ b, decide (0 ≤ k0) = b := ⟨_, rfl⟩
 obtain ⟨b1, hb1⟩ : ∃ b, decide (k0 ≤ 63) = b := ⟨_, rfl⟩
 obtain ⟨b2, hb2⟩ : ∃ b, decide (1 ≤ k1) = b := ⟨_, rfl⟩
 obtain ⟨b3, hb3⟩ : ∃ b, decide (k1 ≤ 1099511627776) = b := ⟨_, rfl⟩
 obtain ⟨b4, hb4⟩ : ∃ b, decide (0 ≤ k2) = b := ⟨_, rfl⟩
 obtain ⟨b5, hb5⟩ : ∃ b, decide (k2 ≤ 1099511627776) = b := ⟨_, rfl⟩
 rw [hb0, hb1, hb2, hb3, hb4, hb5] at hres
 have HRES := kp hres
 clear hres
 obtain ⟨g, hg⟩ : ∃ g, g = w.heap.size := ⟨_, rfl⟩
 have HG := kp hg
 go_enter Tryz.func34, Tryz.ntmps34
 go_wp2_with (first | (with_reducible refine wpl_box (o := ⟨some 1, _, _, _, _, _⟩) rfl rfl rfl ?_))
 intro w1 hb1 hbw1 hsz1
 rw [← hg] at hb1 hbw1 hsz1 ⊢
 have HB := kp (show Grow w w1 by rw [hg] at hbw1; exact hbw1)
 have c0 := hb1.at_ HA.out.1
 have c1 := hb1.at_ HA.out.2.1
 have c2 := hb1.at_ HA.out.2.2
 clear hb1 hbw1 hsz1 hg
 cases b0
 ·go_wp2_with fail
  go_ret
  exact ⟨ret_bool (by rw [HRES.out]; simp), HB.out⟩
 cases b1
 ·go_wp2_with fail
  go_ret
  exact ⟨ret_bool (by rw [HRES.out]; simp), HB.out⟩
 cases b2
 ·go_wp2_with fail
  go_ret
  exact ⟨ret_bool (by rw [HRES.out]; simp), HB.out⟩
 cases b3
 ·go_wp2_with fail
  go_ret
  exact ⟨ret_bool (by rw [HRES.out]; simp), HB.out⟩
 cases b4
 ·go_wp2_with fail
  go_ret
  exact ⟨ret_bool (by rw [HRES.out]; simp), HB.out⟩
 cases b5
 ·go_wp2_with fail
  go_ret
  exact ⟨ret_bool (by rw [HRES.out]; simp), HB.out⟩
 go_wp2_with fail
 go_ret
 exact ⟨ret_bool (by rw [HRES.out]; rfl), HB.out⟩
set_option maxRecDepth 100000 in
set_option maxHeartbeats 1000000 in
theorem reright_any (x : Ent) (w : World) (hx : x.ok) : Calls Tryz.prog 33 #[.agg (entV x).toArray] w fun e w' => e = .returned (.bool (rightE x)) ∧ Below w.heap.size w w' := by
 obtain ⟨res, hres⟩ : ∃ res, res = rightE x := ⟨_, rfl⟩
 rw [← hres]
 unfold rightE inB at hres
 have HA := kp (ent_at hx)
 obtain ⟨cs, hcs⟩ : ∃ cs, cs = entV x := ⟨_, rfl⟩
 rw [← hcs] at HA ⊢
 clear hcs hx
 obtain ⟨k0, hk0⟩ : ∃ k, k = x.kind := ⟨_, rfl⟩
 obtain ⟨k1, hk1⟩ : ∃ k, k = x.shard := ⟨_, rfl⟩
 obtain ⟨k2, hk2⟩ : ∃ k, k = x.amount := ⟨_, rfl⟩
 obtain ⟨k3, hk3⟩ : ∃ k, k = x.why := ⟨_, rfl⟩
 obtain ⟨k4, hk4⟩ : ∃ k, k = x.epoch := ⟨_, rfl⟩
 rw [← hk0, ← hk1, ← hk2, ← hk3, ← hk4] at HA hres
 clear hk0 hk1 hk2 hk3 hk4
 obtain ⟨b0, hb0⟩ : ∃ b, decide (1 ≤ k0) = b := ⟨_, rfl⟩
 obtain ⟨b1, hb1⟩ : ∃ b, decide (k0 ≤ 3) = b := ⟨_, rfl⟩
 obtain ⟨b2, hb2⟩ : ∃ b, decide (0 ≤ k1) = b := ⟨_, rfl⟩
 obtain ⟨b3, hb3⟩ : ∃ b, decide (k1 ≤ 63) = b := ⟨_, rfl⟩
 obtain ⟨b4, hb4⟩ : ∃ b, decide (k2 ≤ 4611686018427387904) = b := ⟨_, rfl⟩
 obtain ⟨b5, hb5⟩ : ∃ b, decide (0 ≤ k3) = b := ⟨_, rfl⟩
 obtain ⟨b6, hb6⟩ : ∃ b, decide (k3 ≤ 63) = b := ⟨_, rfl⟩
 obtain ⟨b7, hb7⟩ : ∃ b, decide (0 ≤ k4) = b := ⟨_, rfl⟩
 obtain ⟨b8, hb8⟩ : ∃ b, decide (k4 ≤ 1099511627776) = b := ⟨_, rfl⟩
 rw [hb0, hb1, hb2, hb3, hb4, hb5, hb6, hb7, hb8] at hres
 have HRES := kp hres
 clear hres
 obtain ⟨g, hg⟩ : ∃ g, g = w.heap.size := ⟨_, rfl⟩
 have HG := kp hg
 go_enter Tryz.func33, Tryz.ntmps33
 go_wp2_with (first | (with_reducible refine wpl_box (o := ⟨some 1, _, _, _, _, _⟩) rfl rfl rfl ?_))
 intro w1 hb1 hbw1 hsz1
 rw [← hg] at hb1 hbw1 hsz1 ⊢
 have HB := kp (show Grow w w1 by rw [hg] at hbw1; exact hbw1)
 have c0 := hb1.at_ HA.out.1
 have c1 := hb1.at_ HA.out.2.1
 have c2 := hb1.at_ HA.out.2.2.1
 have c3 := hb1.at_ HA.out.2.2.2.1
 have c4 := hb1.at_ HA.out.2.2.2.2
 clear hb1 hbw1 hsz1 hg
 cases b0
 ·go_wp2_with fail
  go_ret
  exact ⟨ret_bool (by rw [HRES.out]; simp), HB.out⟩
 cases b1
 ·go_wp2_with fail
  go_ret
  exact ⟨ret_bool (by rw [HRES.out]; simp), HB.out⟩
 cases b2
 ·go_wp2_with fail
  go_ret
  exact ⟨ret_bool (by rw [HRES.out]; simp), HB.out⟩
 cases b3
 ·go_wp2_with fail
  go_ret
  exact ⟨ret_bool (by rw [HRES.out]; simp), HB.out⟩
 cases b4
 ·go_wp2_with fail
  go_ret
  exact ⟨ret_bool (by rw [HRES.out]; simp), HB.out⟩
 cases b5
 ·go_wp2_with fail
  go_ret
  exact ⟨ret_bool (by rw [HRES.out]; simp), HB.out⟩
 cases b6
 ·go_wp2_with fail
  go_ret
  exact ⟨ret_bool (by rw [HRES.out]; simp), HB.out⟩
 cases b7
 ·go_wp2_with fail
  go_ret
  exact ⟨ret_bool (by rw [HRES.out]; simp), HB.out⟩
 cases b8
 ·go_wp2_with fail
  go_ret
  exact ⟨ret_bool (by rw [HRES.out]; simp), HB.out⟩
 go_wp2_with fail
 go_ret
 exact ⟨ret_bool (by rw [HRES.out]; rfl), HB.out⟩
end Go.Proofs.YtphmefhnffoafaaGreatDoor

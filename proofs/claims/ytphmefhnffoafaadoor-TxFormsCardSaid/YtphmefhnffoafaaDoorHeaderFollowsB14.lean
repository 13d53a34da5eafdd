/- The contract of header.Put. Printed by mkhdrb.py. -/
import Derived.Test.YtphmefhnffoafaaDoorHeaderFollowsB13
import Derived.Test.YtphmefhnffoafaaDoorHeaderFollowsB1
import Derived.Great.FillDense
import Derived.Laws.CopyOwn
import Derived.Laws.Tables
import Derived.Test.YtphmefhnffoafaaDoorHeaderFollowsB10
/- The contract of header.Put. Printed by mkhdrb.py. -/
namespace Go.Proofs.YtphmefhnffoafaaDoor
open Go.RowKit Go.Shelf
set_option linter.unusedVariables false

def numsB (s h p : Nat) (k : Nat) : List UInt8 := if k = 0 then [] else if k = 1 then numB s else if k = 2 then numB s ++ numB h else numB s ++ numB h ++ numB p
set_option maxRecDepth 100000 in
set_option maxHeartbeats 2000000 in
theorem hput_any (x : Hdr) (w : World) (hx : x.ok) : Calls Tryd.prog 35 #[.agg (hdrV x).toArray] w fun e w' => ∃ A c, e = .returned (.tuple #[.slice A (hformB x).length c, .bool (rightH x)]) ∧ Sl w' w'.heap.size 1 A (hformB x).length ((hformB x).map B) ∧ (hformB x).length ≤ c ∧ Grow w w' := by
  have HR := Lib.hid (fun w => hright_any x w hx)
  have HXO := Lib.hid hx
  have HL := Lib.hid (hdrV_length hx)
  obtain ⟨r, hr⟩ : ∃ r, r = rightH x := ⟨_, rfl⟩
  have HRR := Lib.hid hr
  unfold hformB
  rw [← hr] at HR ⊢
  clear hr hx
  obtain ⟨cs, hcs⟩ : ∃ cs, cs = hdrV x := ⟨_, rfl⟩
  have HCS := Lib.hid hcs
  rw [← hcs] at HR HL ⊢
  clear hcs
  obtain ⟨gh, hgh⟩ : ∃ gh, gh = w.heap.size := ⟨_, rfl⟩
  have HG := Lib.hid hgh
  go_enter Tryd.func35, Tryd.ntmps35
  go_wp2_with (first | (with_reducible refine wpl_box (o := ⟨some 1, _, _, _, _, _⟩) rfl rfl rfl ?_))
  intro w1 hb1 hbw1 hsz1
  rw [← hgh] at hb1 hbw1 hsz1 ⊢
  have HH := Lib.hid hb1
  have HB := Lib.hid (show Grow w w1 by rw [hgh] at hbw1; exact hbw1)
  clear hb1 hbw1 hsz1 hgh
  go_wp2_with (first | (with_reducible refine wpl_loadb (o := ⟨some 7, _, _, _, _, _⟩) rfl rfl row_header HH.out rfl HL.out ?_))
  refine (HR.out _).mono ?_
  rintro e w_ ⟨rfl, hb_⟩
  have HH_ := Lib.hid (HH.out.call hb_)
  have HB_ := Lib.hid (HB.out.grow' hb_)
  clear hb_ HH HB
  have HH := HH_; have HB := HB_
  clear HH_ HB_
  try clear w1
  cases r with
  | false =>
    go_wp2_with fail
    go_ret2
    exact ⟨none, ⟨0, rfl⟩, Sl.nil, HB.out⟩
  | true =>
    obtain ⟨⟨hs1, hs2⟩, ⟨hh1, hh2⟩, hp1, hp2⟩ := rightH_iff.1 HRR.out.symm
    obtain ⟨_, _, _, hpl, hrl⟩ := HXO.out
    obtain ⟨xs, xh, xp, prev, root⟩ := x
    obtain ⟨ns, rfl⟩ := nat_of hs1
    obtain ⟨nh, rfl⟩ := nat_of (show 0 ≤ xh by simp only at hh1; omega)
    obtain ⟨np, rfl⟩ := nat_of hp1
    simp only at hs2 hh1 hh2 hp2 hpl hrl
    have hDP := Lib.hid (dig_map hpl)
    have hDR := Lib.hid (dig_map hrl)
    have us := conv_u64 (n := ns) (by omega); have uh := conv_u64 (n := nh) (by omega); have up := conv_u64 (n := np) (by omega)
    have ls := numB_le (n := ns) (by omega); have lh := numB_le (n := nh) (by omega); have lp := numB_le (n := np) (by omega)
    have HFE := Lib.hid (show putHB ⟨(ns : Int), (nh : Int), (np : Int), prev, root⟩ = numB ns ++ numB nh ++ numB np ++ prev ++ root by unfold putHB; simp only [Int.toNat_natCast])
    go_wp2_with (first | (with_reducible refine wpl_alloc (o := ⟨some 4, _, _, _, _, _⟩) rfl rfl zero_pen ?_))
    intro w3 hb3 hbw3 hsz3
    obtain ⟨g, hg⟩ : ∃ g, g = w_.heap.size := ⟨_, rfl⟩
    rw [← hg] at hb3 hsz3 hbw3 ⊢
    have HHB := Lib.hid (HH.out.below hbw3 (by have := HH.out.lt; omega))
    have HB3 := Lib.hid (show Grow w w3 from HB.out.grow' (by rw [hg] at hbw3; exact hbw3))
    have hghlt := HH.out.lt
    have hwlt := HB.out.size
    rw [HCS.out] at HHB
    clear HH HB HR HRR HL HCS
    have HPB := Lib.hid hb3
    have c0 := HHB.out.at_ (hdr_at HXO.out).1
    have c1 := HHB.out.at_ (hdr_at HXO.out).2.1
    have c2 := HHB.out.at_ (hdr_at HXO.out).2.2
    clear hb3 hbw3
    go_wp2_with fail
    generalize hw4 : World.alloc w3 _ = w4
    obtain ⟨hX, hb, hs⟩ := alloc_eq hw4
    have hgr2 : w_.heap.size + 1 = w3.heap.size := by omega
    rw [hgr2]
    obtain ⟨gr, hgr⟩ : ∃ gr, gr = w3.heap.size := ⟨_, rfl⟩
    rw [← hg, ← hgr]
    rw [← hgr] at hX hs
    clear hgr2
    obtain ⟨K, hK⟩ : ∃ K : Nat → Prop, K = fun k => k < g ∨ k = gr := ⟨_, rfl⟩
    have hKI : ∀ k, K k ↔ (k < g ∨ k = gr) := fun k => by rw [hK]
    have HP := Lib.hid (PenAt.new (K := K) (HPB.out.grow hb) (fun k hk => by have := (hKI k).1 hk; omega))
    have HKH := Lib.hid (show K gh from (hKI gh).2 (.inl (by omega)))
    have HKG := Lib.hid (show K gr from (hKI gr).2 (.inr rfl))
    have HKW := Lib.hid (show ∀ k, k < w.heap.size → K k from fun k hk => (hKI k).2 (.inl (by omega)))
    have HB4 := Lib.hid (show Grow w w4 from HB3.out.grow' hb)
    have HH4 := Lib.hid (HHB.out.grow hb)
    have HRW := Lib.hid (show Blk w4 gr 3 [.int .i64 (ns : Int), .int .i64 (nh : Int), .int .i64 (np : Int)] from hX)
    clear hX hb hs hw4 hgr hK hKI HPB HHB HB3 c0 c1 c2 hghlt hwlt hsz3 hg
    go_loopw [18] (fun iv wr => ∃ k : Nat, k ≤ 3 ∧ iv = .int .i64 k ∧ Hid (PenAt wr K g (numsB ns nh np k)) ∧ Hid (Kept K w4 wr)) (fun iv _ => 3 - (intOf iv).toNat)
    case atStart => exact ⟨0, by omega, rfl, HP, Kept.refl _ _⟩
    case round =>
      obtain ⟨k, hk, rfl, hp, hkk⟩ := hrel
      have HRW2 := Lib.hid (hkk.out.blk HRW.out HKG.out)
      obtain rfl | rfl | rfl | rfl : k = 0 ∨ k = 1 ∨ k = 2 ∨ k = 3 := by omega
      · have cr := HRW2.out.at_ (i := 0) rfl
        go_wp2_with fail
        refine (num_any g ns K ([]) _ hp.out (by simp) (by omega)).mono ?_
        rintro e w5 ⟨rfl, hp5, hk5⟩
        have HP5 := Lib.hid (show PenAt w5 K g (numsB ns nh np 1) from hp5)
        have HK5 := Lib.hid (hkk.out.trans hk5)
        clear hp5 hk5 cr
        go_wp2_with fail
        go_roundw
        case rel => exact ⟨1, by omega, rfl, HP5, HK5⟩
        case measure => simp [intOf]
      · have cr := HRW2.out.at_ (i := 1) rfl
        go_wp2_with fail
        refine (num_any g nh K (numB ns) _ hp.out (by omega) (by omega)).mono ?_
        rintro e w5 ⟨rfl, hp5, hk5⟩
        have HP5 := Lib.hid (show PenAt w5 K g (numsB ns nh np 2) from hp5)
        have HK5 := Lib.hid (hkk.out.trans hk5)
        clear hp5 hk5 cr
        go_wp2_with fail
        go_roundw
        case rel => exact ⟨2, by omega, rfl, HP5, HK5⟩
        case measure => simp [intOf]
      · have cr := HRW2.out.at_ (i := 2) rfl
        go_wp2_with fail
        refine (num_any g np K (numB ns ++ numB nh) _ hp.out (by simp only [List.length_append]; omega) (by omega)).mono ?_
        rintro e w5 ⟨rfl, hp5, hk5⟩
        have HP5 := Lib.hid (show PenAt w5 K g (numsB ns nh np 3) from hp5)
        have HK5 := Lib.hid (hkk.out.trans hk5)
        clear hp5 hk5 cr
        go_wp2_with fail
        go_roundw
        case rel => exact ⟨3, by omega, rfl, HP5, HK5⟩
        case measure => simp [intOf]
      · have HP := Lib.hid (show PenAt wr K g (numB ns ++ numB nh ++ numB np) from hp.out)
        have HKK := hkk
        have HH := Lib.hid (hkk.out.blk HH4.out HKH.out)
        clear HRW2 hp hkk HRW HH4
        obtain ⟨w_, hw_⟩ : ∃ w_ : World, w_ = wr := ⟨_, rfl⟩
        subst hw_
        have hm_ := midP HXO.out HH.out
        go_wp2_with (first | (with_reducible refine wpl_loadm (o := ⟨some 27, _, _, _, _, _⟩) rfl rfl row_aid hm_ rfl (by rw [List.length_map]; exact hpl) ?_))
        refine (pid_any g K (numB ns ++ numB nh ++ numB np) hDP.out _ HP.out (by simp only [List.length_append]; omega)).mono ?_
        rintro e w2_ ⟨rfl, hp_, hk_⟩
        have HH_ := Lib.hid (hk_.blk HH.out HKH.out)
        have HKK_ := Lib.hid (HKK.out.trans hk_)
        have HP_ := Lib.hid hp_
        clear hp_ hk_ HH HKK HP
        have HH := HH_
        have HKK := HKK_
        have HP := HP_
        clear HH_ HKK_ HP_
        try clear w_
        rename World => w_
        try clear hm_
        have hm_ := midR HXO.out HH.out
        go_wp2_with (first | (with_reducible refine wpl_loadm (o := ⟨some 30, _, _, _, _, _⟩) rfl rfl row_aid hm_ rfl (by rw [List.length_map]; exact hrl) ?_))
        refine (pid_any g K (numB ns ++ numB nh ++ numB np ++ prev) hDR.out _ HP.out (by simp only [List.length_append]; omega)).mono ?_
        rintro e w2_ ⟨rfl, hp_, hk_⟩
        have HH_ := Lib.hid (hk_.blk HH.out HKH.out)
        have HKK_ := Lib.hid (HKK.out.trans hk_)
        have HP_ := Lib.hid hp_
        clear hp_ hk_ HH HKK HP
        have HH := HH_
        have HKK := HKK_
        have HP := HP_
        clear HH_ HKK_ HP_
        try clear w_
        rename World => w_
        try clear hm_
        go_wp2_with fail
        refine (pbytes_any g K (numB ns ++ numB nh ++ numB np ++ prev ++ root) _ HP.out (by simp only [List.length_append]; omega)).mono ?_
        rintro e w6 ⟨A', c', rfl, ho, hc, hg5⟩
        have HO := Lib.hid (Sl.of_own ho)
        have HC := Lib.hid hc
        have HB6 := Lib.hid (show Grow w w6 from (Below.trans (B := w.heap.size) HB4.out (HKK.out.below HKW.out)).grow' hg5)
        clear ho hc hg5
        go_wp2_with fail
        go_ret2
        rw [HFE.out]
        exact ⟨A', c', by simp [List.length_append, hpl, hrl], HO.out, HC.out, HB6.out⟩
end Go.Proofs.YtphmefhnffoafaaDoor

/- Struct values built of parts that are not written out. No program in sight. -/
namespace Go.Proofs.YtphmefhnffoafaaDoor
open Go.RowKit
set_option linter.unusedVariables false

theorem fill_nil {place : Nat → Option (Nat × Nat)} {cells : List Value} : Instr.fill place cells.toArray [] = some cells.toArray := rfl
theorem splice_get {α : Type} (L cs : List α) (off k : Nat) (h : off + cs.length ≤ L.length) : (splice L off cs)[k]? = if off ≤ k ∧ k < off + cs.length then cs[k - off]? else L[k]? := by
  unfold splice
  have hl : (L.take off).length = off := by rw [List.length_take]; omega
  by_cases h1 : k < off
  · rw [if_neg (by omega), List.getElem?_append_left (by omega), List.getElem?_take, if_pos h1]
  · rw [List.getElem?_append_right (by omega), hl]
    by_cases h2 : k - off < cs.length
    · rw [if_pos (by omega), List.getElem?_append_left h2]
    · rw [if_neg (by omega), List.getElem?_append_right (by omega), List.getElem?_drop]
      congr 1; omega
theorem fill_cons {place : Nat → Option (Nat × Nat)} {cells cs : List Value} {i off s : Nat} {v : Value} {rest : List (Nat × Value)} (hp : place i = some (off, s)) (hv : v.cells = cs.toArray) (hs : cs.length = s) (hle : off + s ≤ cells.length) :
    Instr.fill place cells.toArray ((i, v) :: rest) = Instr.fill place (splice cells off cs).toArray rest := by
  conv => lhs; unfold Instr.fill
  simp only [hp]
  have hsz : v.cells.size = s := by rw [hv]; simpa using hs
  rw [if_neg (by simp [hsz]; omega)]
  congr 1
  obtain ⟨h1, h2⟩ := Great.foldl_set off cs 0 cells.toArray
  have e : (v.cells.zipIdx.foldl (fun cs (x : Value × Nat) => cs.setIfInBounds (off + x.2) x.1) cells.toArray) = ((cs.zipIdx 0).foldl (fun cs (x : Value × Nat) => cs.setIfInBounds (off + x.2) x.1) cells.toArray) := by
    rw [hv, ← Array.foldl_toList, Array.toList_zipIdx]
  refine Eq.trans e ?_
  apply Array.ext_getElem?
  intro k
  rw [h2 k]
  simp only [Nat.add_zero, List.size_toArray, List.getElem?_toArray]
  rw [splice_get _ _ _ _ (by omega)]
  by_cases hk : off ≤ k ∧ k < off + cs.length
  · rw [if_pos ⟨hk.1, hk.2, by omega⟩, if_pos hk]
  · rw [if_neg (fun h => hk ⟨h.1, h.2.1⟩), if_neg hk]
theorem splice_mid {α : Type} {pre old post new : List α} {off : Nat} (h1 : pre.length = off) (h2 : old.length = new.length) : splice (pre ++ (old ++ post)) off new = pre ++ (new ++ post) := by
  unfold splice
  rw [← h1, List.take_left, ← h2, ← List.drop_drop, List.drop_left, List.drop_left]
section
variable {P : Program} {ops : Array Oper} {rest : List Oper} {o : Oper} {a : Act} {w : World} {Q : Exit → Act → World → Prop}
theorem exec_build {ev : Operand → Value} {t : TypeId} {parts : Array (Nat × Operand)} {cells : List Value} (ho : o.op = .build t parts) (h : P.built t (parts.toList.map fun (i, x) => (i, ev x)) = some cells.toArray) (w : World) :
    (execOp ev o).run P w = .ok (.value (.agg cells.toArray)) w := by
  unfold execOp
  simp only [ho, Sem.run_bind, run_build w t (parts.map fun (i, x) => (i, ev x)) _ (by rw [Array.toList_map]; exact h), Result.andThen_ok]
  rfl
theorem wpl_build (hgd : o.guard = none) {t : TypeId} {parts : Array (Nat × Operand)} (ho : o.op = .build t parts) {cells : List Value} (h : P.built t (parts.toList.map fun (i, x) => (i, a.eval x)) = some cells.toArray)
    (hk : wpList P ops Q rest (a.put o.dst (.agg cells.toArray)) w) : wpList P ops Q (o :: rest) a w := by
  refine wpList_plain hgd fun K hK => ?_
  unfold Oper.wp
  rw [exec_build ho h w]
  exact hK _ _ hk
end
end Go.Proofs.YtphmefhnffoafaaDoor

/- Contracts of header.Id, and of the document's Right of headers and entries. Printed by mkhdrc.py. -/
namespace Go.Proofs.YtphmefhnffoafaaDoor
open Go.RowKit Go.Shelf
set_option linter.unusedVariables false

theorem built_id0 : Tryd.prog.built 23 [] = some (zeroD.map B).toArray := by kernel_rfl
set_option maxRecDepth 100000 in
set_option maxHeartbeats 1000000 in
theorem hid_any (x : Hdr) {zs : List Value} (hz : Dig zs (hidB x)) (w : World) (hx : x.ok) (ht : Tabs w) : Calls Tryd.prog 37 #[.agg (hdrV x).toArray] w fun e w' => e = .returned (.agg zs.toArray) ∧ Below w.heap.size w w' := by
  have HP := Lib.hid (fun w => hput_any x w hx)
  have HT := Lib.hid ht
  have HL := Lib.hid (hdrV_length hx)
  have HZ := Lib.hid hz
  have HPL := Lib.hid (fun h => putHB_len hx h)
  obtain ⟨r, hr⟩ : ∃ r, r = rightH x := ⟨_, rfl⟩
  have HRR := Lib.hid hr
  unfold hformB at HP
  rw [← hr] at HP
  clear hr hx hz ht
  obtain ⟨cs, hcs⟩ : ∃ cs, cs = hdrV x := ⟨_, rfl⟩
  rw [← hcs] at HP HL ⊢
  clear hcs
  obtain ⟨gh, hgh⟩ : ∃ gh, gh = w.heap.size := ⟨_, rfl⟩
  have HG := Lib.hid hgh
  go_enter Tryd.func37, Tryd.ntmps37
  go_wp2_with (first | (with_reducible refine wpl_box (o := ⟨some 1, _, _, _, _, _⟩) rfl rfl rfl ?_))
  intro w1 hb1 hbw1 hsz1
  rw [← hgh] at hb1 hbw1 hsz1 ⊢
  clear hgh
  go_wp2_with (first | (with_reducible refine wpl_alloc (o := ⟨some 2, _, _, _, _, _⟩) rfl rfl zero_id ?_))
  intro w2 hb2 hbw2 hsz2
  have HH := Lib.hid (hb1.below hbw2 (by omega))
  have HV := Lib.hid (at_mk hb2 len_id)
  have HB := Lib.hid (show Grow w w2 by rw [HG.out] at hbw1; exact Below.trans hbw1 (hbw2.mono (by have := HG.out; omega)))
  have HVG := Lib.hid (show w.heap.size ≤ gh + 1 by have := HG.out; omega)
  clear hb1 hb2 hbw1 hbw2 hsz1 hsz2
  go_wp2_with (first | (with_reducible refine wpl_loadb (o := ⟨some 6, _, _, _, _, _⟩) rfl rfl row_header HH.out rfl HL.out ?_))
  refine (HP.out _).mono ?_
  rintro e w_ ⟨A, c, rfl, hs, hc, hb_⟩
  have HS := Lib.hid hs; have HC := Lib.hid hc
  have HV_ := Lib.hid (HV.out.grow hb_)
  have HB_ := Lib.hid (HB.out.grow' hb_)
  have HT_ := Lib.hid (HT.out.grow (HB.out.grow' hb_))
  clear hb_ HV HB HT HH hs hc HP
  have HV := HV_; have HB := HB_; have HT := HT_
  clear HV_ HB_ HT_
  try clear w2
  cases r with
  | false =>
    have HZ0 := Lib.hid (show zs = zeroD.map B by have h := HZ.out.1; unfold hidB at h; rw [← HRR.out] at h; exact h)
    have T0 := Lib.hid built_id0
    rw [← HZ0.out] at T0
    go_wp2_with (first | (refine wpl_build (o := ⟨some 12, _, _, _, _, _⟩) rfl rfl T0.out ?_) | (with_reducible refine wpl_storeb (o := ⟨none, .store _ _ _, _, _, _, _⟩) rfl rfl row_id HV.out.blk rfl rfl HV.out.len HZ.out.len HZ.out.one ?_))
    intro w4 hb4 hg4 hs4
    have HB4 := Lib.hid hb4
    have HBB := Lib.hid (put_below HB.out HVG.out hg4)
    clear hb4 hg4 hs4
    go_wp2_with fail
    refine ret_cell rfl row_id HB4.out rfl HZ.out.len rfl ?_
    exact ⟨rfl, HBB.out⟩
  | true =>
    have HZ1 := Lib.hid (show Dig zs (sha (underB 11 [putHB x])) by have h := HZ.out; unfold hidB at h; rw [if_pos HRR.out.symm] at h; exact h)
    have HLL := HPL.out HRR.out.symm
    have HSx := Lib.hid (show Sl w_ w_.heap.size 1 A (putHB x).length ((putHB x).map B) from HS.out)
    have HCx := Lib.hid (show (putHB x).length ≤ c from HC.out)
    clear HS HC
    simp only [if_true]
    go_wp2_with fail
    generalize hw_ : World.alloc w_ _ = w4
    obtain ⟨hX, hb, hs⟩ := alloc_eq hw_
    have HX := Lib.hid hX
    have HV4 := Lib.hid (HV.out.grow hb)
    have HB4 := Lib.hid (HB.out.grow' hb)
    have HT4 := Lib.hid (HT.out.grow hb)
    have HS4 := Lib.hid (HSx.out.grow hb)
    clear hX hb hs hw_ HV HB HT HSx
    refine (punder_any (m := 11) HZ1.out (parts1 HX.out HS4.out HCx.out) (by omega) (fun l hl => by simp only [List.mem_cons, List.not_mem_nil, or_false] at hl; rw [hl]; exact Nat.le_trans (HPL.out HRR.out.symm) (by omega)) HT4.out).mono ?_
    rintro e w5 ⟨rfl, hb5⟩
    have HV5 := Lib.hid (HV4.out.grow hb5)
    have HB5 := Lib.hid (HB4.out.grow' hb5)
    clear hb5 HV4 HB4
    go_wp2_with (first | (with_reducible refine wpl_storeb (o := ⟨none, .store _ _ _, _, _, _, _⟩) rfl rfl row_id HV5.out.blk rfl rfl HV5.out.len HZ.out.len HZ.out.one ?_))
    intro w6 hb6 hg6 hs6
    have HB6 := Lib.hid hb6
    have HBB := Lib.hid (put_below HB5.out HVG.out hg6)
    clear hb6 hg6 hs6
    go_wp2_with fail
    refine ret_cell rfl row_id HB6.out rfl HZ.out.len rfl ?_
    exact ⟨rfl, HBB.out⟩

set_option maxRecDepth 100000 in
set_option maxHeartbeats 1000000 in
theorem rhright_any (x : Hdr) (w : World) (hx : x.ok) : Calls Tryd.prog 22 #[.agg (hdrV x).toArray] w fun e w' => e = .returned (.bool (rightH x)) ∧ Below w.heap.size w w' := by
  obtain ⟨res, hres⟩ : ∃ res, res = rightH x := ⟨_, rfl⟩
  rw [← hres]
  unfold rightH inB at hres
  have HA := Lib.hid (hdr_at hx)
  obtain ⟨cs, hcs⟩ : ∃ cs, cs = hdrV x := ⟨_, rfl⟩
  rw [← hcs] at HA ⊢
  clear hcs hx
  obtain ⟨k0, hk0⟩ : ∃ k, k = x.shard := ⟨_, rfl⟩
  obtain ⟨k1, hk1⟩ : ∃ k, k = x.height := ⟨_, rfl⟩
  obtain ⟨k2, hk2⟩ : ∃ k, k = x.epoch := ⟨_, rfl⟩
  rw [← hk0, ← hk1, ← hk2] at HA hres
  clear hk0 hk1 hk2
  obtain ⟨b0, hb0⟩ : ∃ b, decide (0 ≤ k0) = b := ⟨_, rfl⟩
  obtain ⟨b1, hb1⟩ : ∃ b, decide (k0 ≤ 63) = b := ⟨_, rfl⟩
  obtain ⟨b2, hb2⟩ : ∃ b, decide (1 ≤ k1) = b := ⟨_, rfl⟩
  obtain ⟨b3, hb3⟩ : ∃ b, decide (k1 ≤ 1099511627776) = b := ⟨_, rfl⟩
  obtain ⟨b4, hb4⟩ : ∃ b, decide (0 ≤ k2) = b := ⟨_, rfl⟩
  obtain ⟨b5, hb5⟩ : ∃ b, decide (k2 ≤ 1099511627776) = b := ⟨_, rfl⟩
  rw [hb0, hb1, hb2, hb3, hb4, hb5] at hres
  have HRES := Lib.hid hres
  clear hres
  obtain ⟨g, hg⟩ : ∃ g, g = w.heap.size := ⟨_, rfl⟩
  have HG := Lib.hid hg
  go_enter Tryd.func22, Tryd.ntmps22
  go_wp2_with (first | (with_reducible refine wpl_box (o := ⟨some 1, _, _, _, _, _⟩) rfl rfl rfl ?_))
  intro w1 hb1 hbw1 hsz1
  rw [← hg] at hb1 hbw1 hsz1 ⊢
  have HB := Lib.hid (show Grow w w1 by rw [hg] at hbw1; exact hbw1)
  have c0 := hb1.at_ HA.out.1
  have c1 := hb1.at_ HA.out.2.1
  have c2 := hb1.at_ HA.out.2.2
  clear hb1 hbw1 hsz1 hg
  cases b0
  · go_wp2_with fail
    go_ret
    exact ⟨ret_bool (by rw [HRES.out]; simp), HB.out⟩
  cases b1
  · go_wp2_with fail
    go_ret
    exact ⟨ret_bool (by rw [HRES.out]; simp), HB.out⟩
  cases b2
  · go_wp2_with fail
    go_ret
    exact ⟨ret_bool (by rw [HRES.out]; simp), HB.out⟩
  cases b3
  · go_wp2_with fail
    go_ret
    exact ⟨ret_bool (by rw [HRES.out]; simp), HB.out⟩
  cases b4
  · go_wp2_with fail
    go_ret
    exact ⟨ret_bool (by rw [HRES.out]; simp), HB.out⟩
  cases b5
  · go_wp2_with fail
    go_ret
    exact ⟨ret_bool (by rw [HRES.out]; simp), HB.out⟩
  go_wp2_with fail
  go_ret
  exact ⟨ret_bool (by rw [HRES.out]; rfl), HB.out⟩
set_option maxRecDepth 100000 in
set_option maxHeartbeats 1000000 in
theorem reright_any (x : Ent) (w : World) (hx : x.ok) : Calls Tryd.prog 63 #[.agg (entV x).toArray] w fun e w' => e = .returned (.bool (rightE x)) ∧ Below w.heap.size w w' := by
  obtain ⟨res, hres⟩ : ∃ res, res = rightE x := ⟨_, rfl⟩
  rw [← hres]
  unfold rightE inB at hres
  have HA := Lib.hid (ent_at hx)
  obtain ⟨cs, hcs⟩ : ∃ cs, cs = entV x := ⟨_, rfl⟩
  rw [← hcs] at HA ⊢
  clear hcs hx
  obtain ⟨k0, hk0⟩ : ∃ k, k = x.kind := ⟨_, rfl⟩
  obtain ⟨k1, hk1⟩ : ∃ k, k = x.shard := ⟨_, rfl⟩
  obtain ⟨k2, hk2⟩ : ∃ k, k = x.amount := ⟨_, rfl⟩
  obtain ⟨k3, hk3⟩ : ∃ k, k = x.why := ⟨_, rfl⟩
  obtain ⟨k4, hk4⟩ : ∃ k, k = x.epoch := ⟨_, rfl⟩
  rw [← hk0, ← hk1, ← hk2, ← hk3, ← hk4] at HA hres
  clear hk0 hk1 hk2 hk3 hk4
  obtain ⟨b0, hb0⟩ : ∃ b, decide (1 ≤ k0) = b := ⟨_, rfl⟩
  obtain ⟨b1, hb1⟩ : ∃ b, decide (k0 ≤ 3) = b := ⟨_, rfl⟩
  obtain ⟨b2, hb2⟩ : ∃ b, decide (0 ≤ k1) = b := ⟨_, rfl⟩
  obtain ⟨b3, hb3⟩ : ∃ b, decide (k1 ≤ 63) = b := ⟨_, rfl⟩
  obtain ⟨b4, hb4⟩ : ∃ b, decide (k2 ≤ 4611686018427387904) = b := ⟨_, rfl⟩
  obtain ⟨b5, hb5⟩ : ∃ b, decide (0 ≤ k3) = b := ⟨_, rfl⟩
  obtain ⟨b6, hb6⟩ : ∃ b, decide (k3 ≤ 63) = b := ⟨_, rfl⟩
  obtain ⟨b7, hb7⟩ : ∃ b, decide (0 ≤ k4) = b := ⟨_, rfl⟩
  obtain ⟨b8, hb8⟩ : ∃ b, decide (k4 ≤ 1099511627776) = b := ⟨_, rfl⟩
  rw [hb0, hb1, hb2, hb3, hb4, hb5, hb6, hb7, hb8] at hres
  have HRES := Lib.hid hres
  clear hres
  obtain ⟨g, hg⟩ : ∃ g, g = w.heap.size := ⟨_, rfl⟩
  have HG := Lib.hid hg
  go_enter Tryd.func63, Tryd.ntmps63
  go_wp2_with (first | (with_reducible refine wpl_box (o := ⟨some 1, _, _, _, _, _⟩) rfl rfl rfl ?_))
  intro w1 hb1 hbw1 hsz1
  rw [← hg] at hb1 hbw1 hsz1 ⊢
  have HB := Lib.hid (show Grow w w1 by rw [hg] at hbw1; exact hbw1)
  have c0 := hb1.at_ HA.out.1
  have c1 := hb1.at_ HA.out.2.1
  have c2 := hb1.at_ HA.out.2.2.1
  have c3 := hb1.at_ HA.out.2.2.2.1
  have c4 := hb1.at_ HA.out.2.2.2.2
  clear hb1 hbw1 hsz1 hg
  cases b0
  · go_wp2_with fail
    go_ret
    exact ⟨ret_bool (by rw [HRES.out]; simp), HB.out⟩
  cases b1
  · go_wp2_with fail
    go_ret
    exact ⟨ret_bool (by rw [HRES.out]; simp), HB.out⟩
  cases b2
  · go_wp2_with fail
    go_ret
    exact ⟨ret_bool (by rw [HRES.out]; simp), HB.out⟩
  cases b3
  · go_wp2_with fail
    go_ret
    exact ⟨ret_bool (by rw [HRES.out]; simp), HB.out⟩
  cases b4
  · go_wp2_with fail
    go_ret
    exact ⟨ret_bool (by rw [HRES.out]; simp), HB.out⟩
  cases b5
  · go_wp2_with fail
    go_ret
    exact ⟨ret_bool (by rw [HRES.out]; simp), HB.out⟩
  cases b6
  · go_wp2_with fail
    go_ret
    exact ⟨ret_bool (by rw [HRES.out]; simp), HB.out⟩
  cases b7
  · go_wp2_with fail
    go_ret
    exact ⟨ret_bool (by rw [HRES.out]; simp), HB.out⟩
  cases b8
  · go_wp2_with fail
    go_ret
    exact ⟨ret_bool (by rw [HRES.out]; simp), HB.out⟩
  go_wp2_with fail
  go_ret
  exact ⟨ret_bool (by rw [HRES.out]; rfl), HB.out⟩
end Go.Proofs.YtphmefhnffoafaaDoor

/- Contracts of the document's Put of headers and entries. Printed by mkhdrd.py. -/
namespace Go.Proofs.YtphmefhnffoafaaDoor
open Go.RowKit Go.Shelf
set_option linter.unusedVariables false
theorem own_blk_far {w w2 : World} {base n c g : Nat} {A : Option Addr} {xs : List Value} {t : TypeId} {cs : List Value} (ho : w.ownsRow (g + 1) 5 1 (.slice A n c) n xs) (hg : w.grownBy w2 (A.map Addr.block)) (hb : Blk w g t cs) : Blk w2 g t cs :=
  hb.grown hg (fun e => by have := own_from ho g e.symm; omega)
theorem own_below_far {w0 w w2 : World} {n c g : Nat} {A : Option Addr} {xs : List Value} (ho : w.ownsRow (g + 1) 5 1 (.slice A n c) n xs) (hg : w.grownBy w2 (A.map Addr.block)) (hb : Grow w0 w) (hw : w0.heap.size ≤ g) : Grow w0 w2 :=
  below_grown hb hg hb.size (fun k hk => by have := own_from ho k hk; omega)

set_option maxRecDepth 100000 in
set_option maxHeartbeats 2000000 in
theorem rhput_any (x : Hdr) (w : World) (hx : x.ok) (hr : rightH x = true) : Calls Tryd.prog 39 #[.agg (hdrV x).toArray] w fun e w' => ∃ A c, e = .returned (.slice A (putHB x).length c) ∧ Sl w' w'.heap.size 1 A (putHB x).length ((putHB x).map B) ∧ (putHB x).length ≤ c ∧ Grow w w' := by
  have HXO := Lib.hid hx
  have HL := Lib.hid (hdrV_length hx)
  obtain ⟨⟨hs1, hs2⟩, ⟨hh1, hh2⟩, hp1, hp2⟩ := rightH_iff.1 hr
  obtain ⟨_, _, _, hpl, hrl⟩ := hx
  obtain ⟨xs, xh, xp, prev, root⟩ := x
  obtain ⟨ns, rfl⟩ := nat_of hs1
  obtain ⟨nh, rfl⟩ := nat_of (show 0 ≤ xh by simp only at hh1; omega)
  obtain ⟨np, rfl⟩ := nat_of hp1
  simp only at hs2 hh1 hh2 hp2 hpl hrl
  have us := conv_u64 (n := ns) (by omega); have uh := conv_u64 (n := nh) (by omega); have up := conv_u64 (n := np) (by omega)
  have ls := numB_le (n := ns) (by omega); have lh := numB_le (n := nh) (by omega); have lp := numB_le (n := np) (by omega)
  have HFE := Lib.hid (show putHB ⟨(ns : Int), (nh : Int), (np : Int), prev, root⟩ = numB ns ++ numB nh ++ numB np ++ prev ++ root by unfold putHB; simp only [Int.toNat_natCast])
  clear hr
  obtain ⟨cs, hcs⟩ : ∃ cs, cs = hdrV ⟨(ns : Int), (nh : Int), (np : Int), prev, root⟩ := ⟨_, rfl⟩
  have HCS := Lib.hid hcs
  rw [← hcs]
  rw [← hcs] at HL
  clear hcs
  obtain ⟨gh, hgh⟩ : ∃ gh, gh = w.heap.size := ⟨_, rfl⟩
  have HG := Lib.hid hgh
  have HGW := Lib.hid (show w.heap.size ≤ gh by omega)
  go_enter Tryd.func39, Tryd.ntmps39
  go_wp2_with (first | (with_reducible refine wpl_box (o := ⟨some 1, _, _, _, _, _⟩) rfl rfl rfl ?_))
  intro w_ hb1 hbw1 hsz1
  rw [← hgh] at hb1 hbw1 hsz1 ⊢
  have HH := Lib.hid hb1
  rw [HCS.out] at HH
  have HB := Lib.hid (show Grow w w_ by rw [hgh] at hbw1; exact hbw1)
  clear hb1 hbw1 hsz1 hgh HCS
  try go_wp2_with fail
  repeat' (first | (with_reducible refine wp_plan (id := 1) Grow [0,2,0,4,0,1,0,3,3,0] (.get 0 (.get 1 (.get 2 (.get 4 (.get 5 (.get 6 (.act 3 (.act 7 (.act 8 (.get 9 .done)))))))))) (by kernel_rfl) (by kernel_rfl) Grow.refl Grow.trans ?_) | go_values | go_skip | go_guarded | go_step | go_upon | go_back)
  intro w_ hd_
  have hb_ := hd_.grow
  have HB_ := Lib.hid (HB.out.grow' hb_)
  clear HB
  have HB := HB_
  clear HB_
  have HH_ := Lib.hid (HH.out.grow hb_)
  clear HH
  have HH := HH_
  clear HH_
  clear hb_ hd_
  have c0 := Lib.hid (HH.out.at_ (hdr_at HXO.out).1)
  have c1 := Lib.hid (HH.out.at_ (hdr_at HXO.out).2.1)
  repeat (first | (refine pl_calm rfl rfl (by first | exact wanted_none rfl | (go_simp; done) | rfl) (fun w_ => by first | (go_simp; rfl) | (go_simp; done) | rfl) (fun K hK => ?_); go_simp; refine hK _ _ ?_; clear hK K) | (refine pl_skip rfl (by first | (go_simp; done) | rfl) (fun K hK => ?_); go_simp; refine hK _ _ ?_; clear hK K) | (refine pl_skipa rfl (by first | (go_simp; done) | rfl) (fun K hK => ?_); go_simp; refine hK _ _ ?_; clear hK K) | (refine pl_load rfl rfl (by first | exact wanted_none rfl | (go_simp; done) | rfl) rfl (by first | rfl | (go_simp; rfl)) (by kernel_rfl) (by first | exact c0.out | exact c1.out) (fun K hK => ?_); go_simp; refine hK _ _ ?_; clear hK K) | (refine pl_loadnow rfl rfl (by first | exact wanted_none rfl | (go_simp; done) | rfl) rfl (by first | rfl | (go_simp; rfl)) (by kernel_rfl) (by first | exact c0.out | exact c1.out) (fun K hK => ?_); go_simp; refine hK _ _ ?_; clear hK K))
  clear c0 c1
  have HLT := Lib.hid (show gh + 1 ≤ w_.heap.size from HH.out.lt)
  refine pl_act rfl (by first | exact wanted_none rfl | (go_simp; done) | rfl) (fun K hK => ?_)
  go_wp2_with fail
  refine (rnum_any ns _ (by omega)).mono ?_
  rintro e w_ ⟨A1, d1, rfl, ho_, hc_, hb_⟩
  go_wp2_with fail
  refine hK _ _ (fun _ => hb_) ?_
  clear hK K
  have HB_ := Lib.hid (HB.out.grow' hb_)
  clear HB
  have HB := HB_
  clear HB_
  have HH_ := Lib.hid (HH.out.grow hb_)
  clear HH
  have HH := HH_
  clear HH_
  clear hb_
  have HO1 := Lib.hid ho_
  clear ho_ hc_
  refine pl_act rfl (by first | exact wanted_none rfl | (go_simp; done) | rfl) (fun K hK => ?_)
  go_wp2_with fail
  refine (rnum_any nh _ (by omega)).mono ?_
  rintro e w_ ⟨A2, d2, rfl, ho_, hc_, hb_⟩
  go_wp2_with fail
  refine hK _ _ (fun _ => hb_) ?_
  clear hK K
  have HB_ := Lib.hid (HB.out.grow' hb_)
  clear HB
  have HB := HB_
  clear HB_
  have HH_ := Lib.hid (HH.out.grow hb_)
  clear HH
  have HH := HH_
  clear HH_
  have HO1_ := Lib.hid (HO1.out.grow hb_)
  clear HO1
  have HO1 := HO1_
  clear HO1_
  clear hb_
  have HSL := Lib.hid (Sl.of_own ho_)
  clear ho_ hc_
  refine pl_act rfl (by exact wanted_none rfl) (fun K hK => ?_)
  have HONE := Lib.hid (all_bytes (numB nh))
  have HO2 := Lib.hid (own_base HO1.out (show gh + 1 ≤ _ from HLT.out))
  clear HO1
  refine wpl_apps rfl rfl el_u8 HO2.out rfl HSL.out rfl HONE.out (by omega) (by omega) (by have := HH.out.lt; omega) ?_
  intro A1 c1 w3 ho_ hg_ hA_
  obtain ⟨n1, hn3⟩ : ∃ k, k = (numB ns).length + (numB nh).length := ⟨_, rfl⟩
  obtain ⟨ac1, hac⟩ : ∃ k, k = numB ns ++ numB nh := ⟨_, rfl⟩
  rw [← hn3] at ho_ ⊢
  have HO_ := Lib.hid (show w3.ownsRow (gh + 1) 5 1 (.slice A1 n1 c1) n1 (ac1.map B) by rw [hac, List.map_append]; exact ho_)
  have HN_ := Lib.hid (show n1 = ac1.length by rw [hac, List.length_append, hn3])
  have HL_ := Lib.hid (show n1 ≤ 64 by rw [hn3]; omega)
  have HAC1 := Lib.hid hac
  have HH_ := Lib.hid (own_blk_far (base := 0) HO2.out hg_ HH.out)
  have HB_ := Lib.hid (own_below_far HO2.out hg_ HB.out HGW.out)
  clear ho_ hg_ hA_ hn3 hac HH HB HO2 HSL HONE
  have HO := HO_; have HN := HN_; have HH := HH_; have HB := HB_; have HNL := HL_
  clear HO_ HN_ HH_ HB_ HL_
  try clear w_
  rename World => w_
  go_wp2_with fail
  refine hK _ _ (fun h => by cases h) ?_
  clear hK K
  repeat (first | (refine pl_calm rfl rfl (by first | exact wanted_none rfl | (go_simp; done) | rfl) (fun w_ => by first | (go_simp; rfl) | (go_simp; done) | rfl) (fun K hK => ?_); go_simp; refine hK _ _ ?_; clear hK K) | (refine pl_skip rfl (by first | (go_simp; done) | rfl) (fun K hK => ?_); go_simp; refine hK _ _ ?_; clear hK K) | (refine pl_skipa rfl (by first | (go_simp; done) | rfl) (fun K hK => ?_); go_simp; refine hK _ _ ?_; clear hK K))
  refine pl_done ?_
  have c0 := HH.out.at_ (hdr_at HXO.out).2.2
  go_wp2_with fail
  refine (rnum_any np _ (by omega)).mono ?_
  rintro e w2_ ⟨A2, d2, rfl, ho_, hc_, hb_⟩
  have HSL := Lib.hid (Sl.of_own ho_)
  have HONE := Lib.hid (all_bytes (numB np))
  clear ho_ hc_ c0
  have HH_ := Lib.hid (HH.out.grow hb_)
  have HB_ := Lib.hid (HB.out.grow' hb_)
  have HO_ := Lib.hid (HO.out.grow hb_)
  clear HH HB HO
  have HH := HH_
  have HB := HB_
  have HO := HO_
  clear HH_ HB_ HO_
  clear hb_
  try clear w_
  rename World => w_
  have hn_ := HNL.out
  have hgl_ := HH.out.lt
  go_wp2_with (at_builtin; refine wpl_apps rfl rfl el_u8 HO.out rfl HSL.out rfl HONE.out (by omega) (by omega) (by omega) ?_)
  clear hn_ hgl_
  intro A2 c2 w3 ho_ hg_ hA_
  obtain ⟨n2, hn3⟩ : ∃ k, k = n1 + (numB np).length := ⟨_, rfl⟩
  obtain ⟨ac2, hac⟩ : ∃ k, k = ac1 ++ numB np := ⟨_, rfl⟩
  rw [← hn3] at ho_ ⊢
  have HO_ := Lib.hid (show w3.ownsRow (gh + 1) 5 1 (.slice A2 n2 c2) n2 (ac2.map B) by rw [hac, List.map_append]; exact ho_)
  have HN_ := Lib.hid (show n2 = ac2.length by rw [hac, List.length_append, hn3, HN.out])
  have HL_ := Lib.hid (show n2 ≤ 96 by rw [hn3]; have := HNL.out; omega)
  have HAC2 := Lib.hid hac
  have HH_ := Lib.hid (own_blk_far (base := 0) HO.out hg_ HH.out)
  have HB_ := Lib.hid (own_below_far HO.out hg_ HB.out HGW.out)
  clear ho_ hg_ hA_ hn3 hac HH HB HO HSL HONE HN HNL
  have HO := HO_; have HN := HN_; have HH := HH_; have HB := HB_; have HNL := HL_
  clear HO_ HN_ HH_ HB_ HL_
  try clear w_
  rename World => w_
  have hm_ := midP HXO.out HH.out
  go_wp2_with (first | (with_reducible refine wpl_loadm (o := ⟨some 21, _, _, _, _, _⟩) rfl rfl row_aid hm_ rfl (by rw [List.length_map]; exact hpl) ?_))
  refine (tbytes_any (dig_map hpl) _).mono ?_
  rintro e w2_ ⟨A2, d2, rfl, hs_, hc_, hb_⟩
  have HSL := Lib.hid hs_
  have HONE := Lib.hid (all_bytes prev)
  clear hm_ hs_ hc_
  have HH_ := Lib.hid (HH.out.grow hb_)
  have HB_ := Lib.hid (HB.out.grow' hb_)
  have HO_ := Lib.hid (HO.out.grow hb_)
  clear HH HB HO
  have HH := HH_
  have HB := HB_
  have HO := HO_
  clear HH_ HB_ HO_
  clear hb_
  try clear w_
  rename World => w_
  have hn_ := HNL.out
  have hgl_ := HH.out.lt
  go_wp2_with (at_builtin; refine wpl_apps rfl rfl el_u8 HO.out rfl HSL.out rfl HONE.out (by omega) (by omega) (by omega) ?_)
  clear hn_ hgl_
  intro A3 c3 w3 ho_ hg_ hA_
  obtain ⟨n3, hn3⟩ : ∃ k, k = n2 + 32 := ⟨_, rfl⟩
  obtain ⟨ac3, hac⟩ : ∃ k, k = ac2 ++ prev := ⟨_, rfl⟩
  rw [← hn3] at ho_ ⊢
  have HO_ := Lib.hid (show w3.ownsRow (gh + 1) 5 1 (.slice A3 n3 c3) n3 (ac3.map B) by rw [hac, List.map_append]; exact ho_)
  have HN_ := Lib.hid (show n3 = ac3.length by rw [hac, List.length_append, hn3, HN.out, show prev.length = 32 from hpl])
  have HL_ := Lib.hid (show n3 ≤ 128 by rw [hn3]; have := HNL.out; omega)
  have HAC3 := Lib.hid hac
  have HH_ := Lib.hid (own_blk_far (base := 0) HO.out hg_ HH.out)
  have HB_ := Lib.hid (own_below_far HO.out hg_ HB.out HGW.out)
  clear ho_ hg_ hA_ hn3 hac HH HB HO HSL HONE HN HNL
  have HO := HO_; have HN := HN_; have HH := HH_; have HB := HB_; have HNL := HL_
  clear HO_ HN_ HH_ HB_ HL_
  try clear w_
  rename World => w_
  have hm_ := midR HXO.out HH.out
  go_wp2_with (first | (with_reducible refine wpl_loadm (o := ⟨some 26, _, _, _, _, _⟩) rfl rfl row_aid hm_ rfl (by rw [List.length_map]; exact hrl) ?_))
  refine (tbytes_any (dig_map hrl) _).mono ?_
  rintro e w2_ ⟨A2, d2, rfl, hs_, hc_, hb_⟩
  have HSL := Lib.hid hs_
  have HONE := Lib.hid (all_bytes root)
  clear hm_ hs_ hc_
  have HH_ := Lib.hid (HH.out.grow hb_)
  have HB_ := Lib.hid (HB.out.grow' hb_)
  have HO_ := Lib.hid (HO.out.grow hb_)
  clear HH HB HO
  have HH := HH_
  have HB := HB_
  have HO := HO_
  clear HH_ HB_ HO_
  clear hb_
  try clear w_
  rename World => w_
  have hn_ := HNL.out
  have hgl_ := HH.out.lt
  go_wp2_with (at_builtin; refine wpl_apps rfl rfl el_u8 HO.out rfl HSL.out rfl HONE.out (by omega) (by omega) (by omega) ?_)
  clear hn_ hgl_
  intro A4 c4 w3 ho_ hg_ hA_
  obtain ⟨n4, hn3⟩ : ∃ k, k = n3 + 32 := ⟨_, rfl⟩
  obtain ⟨ac4, hac⟩ : ∃ k, k = ac3 ++ root := ⟨_, rfl⟩
  rw [← hn3] at ho_ ⊢
  have HO_ := Lib.hid (show w3.ownsRow (gh + 1) 5 1 (.slice A4 n4 c4) n4 (ac4.map B) by rw [hac, List.map_append]; exact ho_)
  have HN_ := Lib.hid (show n4 = ac4.length by rw [hac, List.length_append, hn3, HN.out, show root.length = 32 from hrl])
  have HL_ := Lib.hid (show n4 ≤ 160 by rw [hn3]; have := HNL.out; omega)
  have HAC4 := Lib.hid hac
  have HH_ := Lib.hid (own_blk_far (base := 0) HO.out hg_ HH.out)
  have HB_ := Lib.hid (own_below_far HO.out hg_ HB.out HGW.out)
  clear ho_ hg_ hA_ hn3 hac HH HB HO HSL HONE HN HNL
  have HO := HO_; have HN := HN_; have HH := HH_; have HB := HB_; have HNL := HL_
  clear HO_ HN_ HH_ HB_ HL_
  try clear w_
  rename World => w_
  have HEQ := Lib.hid (show ac4 = numB ns ++ numB nh ++ numB np ++ prev ++ root by rw [HAC4.out, HAC3.out, HAC2.out, HAC1.out])
  go_wp2_with fail
  go_ret
  have ho := HO.out
  rw [HN.out, HEQ.out] at ho ⊢
  rw [HFE.out]
  exact ⟨_, _, rfl, Sl.of_own ho, own_cap1 ho, HB.out⟩
set_option maxRecDepth 100000 in
set_option maxHeartbeats 2000000 in
theorem reput_any (x : Ent) (w : World) (hx : x.ok) (hr : rightE x = true) : Calls Tryd.prog 64 #[.agg (entV x).toArray] w fun e w' => ∃ A c, e = .returned (.slice A (putEB x).length c) ∧ Sl w' w'.heap.size 1 A (putEB x).length ((putEB x).map B) ∧ (putEB x).length ≤ c ∧ Grow w w' := by
  have HXO := Lib.hid hx
  have HL := Lib.hid (entV_length hx)
  obtain ⟨⟨hk1, hk2⟩, ⟨hs1, hs2⟩, ha2, ⟨hy1, hy2⟩, hp1, hp2⟩ := rightE_iff.1 hr
  obtain ⟨_, _, htx, ⟨ha1, _⟩, _, _⟩ := hx
  obtain ⟨xk, xs, tx, xa, xy, xp⟩ := x
  obtain ⟨nk, rfl⟩ := nat_of (show 0 ≤ xk by simp only at hk1; omega)
  obtain ⟨ns, rfl⟩ := nat_of hs1
  obtain ⟨na, rfl⟩ := nat_of ha1
  obtain ⟨ny, rfl⟩ := nat_of hy1
  obtain ⟨np, rfl⟩ := nat_of hp1
  simp only at hk1 hk2 hs2 ha2 hy2 hp2 htx
  have uk := conv_u64 (n := nk) (by omega); have us := conv_u64 (n := ns) (by omega); have uy := conv_u64 (n := ny) (by omega); have up := conv_u64 (n := np) (by omega)
  have lk := numB_le (n := nk) (by omega); have ls := numB_le (n := ns) (by omega); have la := numB_le (n := na) (by omega); have ly := numB_le (n := ny) (by omega); have lp := numB_le (n := np) (by omega)
  have HFE := Lib.hid (show putEB ⟨(nk : Int), (ns : Int), tx, (na : Int), (ny : Int), (np : Int)⟩ = numB nk ++ numB ns ++ tx ++ numB na ++ numB ny ++ numB np by unfold putEB; simp only [Int.toNat_natCast])
  clear hr
  obtain ⟨cs, hcs⟩ : ∃ cs, cs = entV ⟨(nk : Int), (ns : Int), tx, (na : Int), (ny : Int), (np : Int)⟩ := ⟨_, rfl⟩
  have HCS := Lib.hid hcs
  rw [← hcs]
  rw [← hcs] at HL
  clear hcs
  obtain ⟨gh, hgh⟩ : ∃ gh, gh = w.heap.size := ⟨_, rfl⟩
  have HG := Lib.hid hgh
  have HGW := Lib.hid (show w.heap.size ≤ gh by omega)
  go_enter Tryd.func64, Tryd.ntmps64
  go_wp2_with (first | (with_reducible refine wpl_box (o := ⟨some 1, _, _, _, _, _⟩) rfl rfl rfl ?_))
  intro w_ hb1 hbw1 hsz1
  rw [← hgh] at hb1 hbw1 hsz1 ⊢
  have HH := Lib.hid hb1
  rw [HCS.out] at HH
  have HB := Lib.hid (show Grow w w_ by rw [hgh] at hbw1; exact hbw1)
  clear hb1 hbw1 hsz1 hgh HCS
  try go_wp2_with fail
  repeat' (first | (with_reducible refine wp_plan (id := 1) Grow [0,2,0,4,0,1,0,3,3,0] (.get 0 (.get 1 (.get 2 (.get 4 (.get 5 (.get 6 (.act 3 (.act 7 (.act 8 (.get 9 .done)))))))))) (by kernel_rfl) (by kernel_rfl) Grow.refl Grow.trans ?_) | go_values | go_skip | go_guarded | go_step | go_upon | go_back)
  intro w_ hd_
  have hb_ := hd_.grow
  have HB_ := Lib.hid (HB.out.grow' hb_)
  clear HB
  have HB := HB_
  clear HB_
  have HH_ := Lib.hid (HH.out.grow hb_)
  clear HH
  have HH := HH_
  clear HH_
  clear hb_ hd_
  have c0 := Lib.hid (HH.out.at_ (ent_at HXO.out).1)
  have c1 := Lib.hid (HH.out.at_ (ent_at HXO.out).2.1)
  repeat (first | (refine pl_calm rfl rfl (by first | exact wanted_none rfl | (go_simp; done) | rfl) (fun w_ => by first | (go_simp; rfl) | (go_simp; done) | rfl) (fun K hK => ?_); go_simp; refine hK _ _ ?_; clear hK K) | (refine pl_skip rfl (by first | (go_simp; done) | rfl) (fun K hK => ?_); go_simp; refine hK _ _ ?_; clear hK K) | (refine pl_skipa rfl (by first | (go_simp; done) | rfl) (fun K hK => ?_); go_simp; refine hK _ _ ?_; clear hK K) | (refine pl_load rfl rfl (by first | exact wanted_none rfl | (go_simp; done) | rfl) rfl (by first | rfl | (go_simp; rfl)) (by kernel_rfl) (by first | exact c0.out | exact c1.out) (fun K hK => ?_); go_simp; refine hK _ _ ?_; clear hK K) | (refine pl_loadnow rfl rfl (by first | exact wanted_none rfl | (go_simp; done) | rfl) rfl (by first | rfl | (go_simp; rfl)) (by kernel_rfl) (by first | exact c0.out | exact c1.out) (fun K hK => ?_); go_simp; refine hK _ _ ?_; clear hK K))
  clear c0 c1
  have HLT := Lib.hid (show gh + 1 ≤ w_.heap.size from HH.out.lt)
  refine pl_act rfl (by first | exact wanted_none rfl | (go_simp; done) | rfl) (fun K hK => ?_)
  go_wp2_with fail
  refine (rnum_any nk _ (by omega)).mono ?_
  rintro e w_ ⟨A1, d1, rfl, ho_, hc_, hb_⟩
  go_wp2_with fail
  refine hK _ _ (fun _ => hb_) ?_
  clear hK K
  have HB_ := Lib.hid (HB.out.grow' hb_)
  clear HB
  have HB := HB_
  clear HB_
  have HH_ := Lib.hid (HH.out.grow hb_)
  clear HH
  have HH := HH_
  clear HH_
  clear hb_
  have HO1 := Lib.hid ho_
  clear ho_ hc_
  refine pl_act rfl (by first | exact wanted_none rfl | (go_simp; done) | rfl) (fun K hK => ?_)
  go_wp2_with fail
  refine (rnum_any ns _ (by omega)).mono ?_
  rintro e w_ ⟨A2, d2, rfl, ho_, hc_, hb_⟩
  go_wp2_with fail
  refine hK _ _ (fun _ => hb_) ?_
  clear hK K
  have HB_ := Lib.hid (HB.out.grow' hb_)
  clear HB
  have HB := HB_
  clear HB_
  have HH_ := Lib.hid (HH.out.grow hb_)
  clear HH
  have HH := HH_
  clear HH_
  have HO1_ := Lib.hid (HO1.out.grow hb_)
  clear HO1
  have HO1 := HO1_
  clear HO1_
  clear hb_
  have HSL := Lib.hid (Sl.of_own ho_)
  clear ho_ hc_
  refine pl_act rfl (by exact wanted_none rfl) (fun K hK => ?_)
  have HONE := Lib.hid (all_bytes (numB ns))
  have HO2 := Lib.hid (own_base HO1.out (show gh + 1 ≤ _ from HLT.out))
  clear HO1
  refine wpl_apps rfl rfl el_u8 HO2.out rfl HSL.out rfl HONE.out (by omega) (by omega) (by have := HH.out.lt; omega) ?_
  intro A1 c1 w3 ho_ hg_ hA_
  obtain ⟨n1, hn3⟩ : ∃ k, k = (numB nk).length + (numB ns).length := ⟨_, rfl⟩
  obtain ⟨ac1, hac⟩ : ∃ k, k = numB nk ++ numB ns := ⟨_, rfl⟩
  rw [← hn3] at ho_ ⊢
  have HO_ := Lib.hid (show w3.ownsRow (gh + 1) 5 1 (.slice A1 n1 c1) n1 (ac1.map B) by rw [hac, List.map_append]; exact ho_)
  have HN_ := Lib.hid (show n1 = ac1.length by rw [hac, List.length_append, hn3])
  have HL_ := Lib.hid (show n1 ≤ 64 by rw [hn3]; omega)
  have HAC1 := Lib.hid hac
  have HH_ := Lib.hid (own_blk_far (base := 0) HO2.out hg_ HH.out)
  have HB_ := Lib.hid (own_below_far HO2.out hg_ HB.out HGW.out)
  clear ho_ hg_ hA_ hn3 hac HH HB HO2 HSL HONE
  have HO := HO_; have HN := HN_; have HH := HH_; have HB := HB_; have HNL := HL_
  clear HO_ HN_ HH_ HB_ HL_
  try clear w_
  rename World => w_
  go_wp2_with fail
  refine hK _ _ (fun h => by cases h) ?_
  clear hK K
  repeat (first | (refine pl_calm rfl rfl (by first | exact wanted_none rfl | (go_simp; done) | rfl) (fun w_ => by first | (go_simp; rfl) | (go_simp; done) | rfl) (fun K hK => ?_); go_simp; refine hK _ _ ?_; clear hK K) | (refine pl_skip rfl (by first | (go_simp; done) | rfl) (fun K hK => ?_); go_simp; refine hK _ _ ?_; clear hK K) | (refine pl_skipa rfl (by first | (go_simp; done) | rfl) (fun K hK => ?_); go_simp; refine hK _ _ ?_; clear hK K))
  refine pl_done ?_
  have hm_ := midE HXO.out HH.out
  go_wp2_with (first | (with_reducible refine wpl_loadm (o := ⟨some 15, _, _, _, _, _⟩) rfl rfl row_aid hm_ rfl (by rw [List.length_map]; exact htx) ?_))
  refine (tbytes_any (dig_map htx) _).mono ?_
  rintro e w2_ ⟨A2, d2, rfl, hs_, hc_, hb_⟩
  have HSL := Lib.hid hs_
  have HONE := Lib.hid (all_bytes tx)
  clear hm_ hs_ hc_
  have HH_ := Lib.hid (HH.out.grow hb_)
  have HB_ := Lib.hid (HB.out.grow' hb_)
  have HO_ := Lib.hid (HO.out.grow hb_)
  clear HH HB HO
  have HH := HH_
  have HB := HB_
  have HO := HO_
  clear HH_ HB_ HO_
  clear hb_
  try clear w_
  rename World => w_
  have hn_ := HNL.out
  have hgl_ := HH.out.lt
  go_wp2_with (at_builtin; refine wpl_apps rfl rfl el_u8 HO.out rfl HSL.out rfl HONE.out (by omega) (by omega) (by omega) ?_)
  clear hn_ hgl_
  intro A2 c2 w3 ho_ hg_ hA_
  obtain ⟨n2, hn3⟩ : ∃ k, k = n1 + 32 := ⟨_, rfl⟩
  obtain ⟨ac2, hac⟩ : ∃ k, k = ac1 ++ tx := ⟨_, rfl⟩
  rw [← hn3] at ho_ ⊢
  have HO_ := Lib.hid (show w3.ownsRow (gh + 1) 5 1 (.slice A2 n2 c2) n2 (ac2.map B) by rw [hac, List.map_append]; exact ho_)
  have HN_ := Lib.hid (show n2 = ac2.length by rw [hac, List.length_append, hn3, HN.out, show tx.length = 32 from htx])
  have HL_ := Lib.hid (show n2 ≤ 96 by rw [hn3]; have := HNL.out; omega)
  have HAC2 := Lib.hid hac
  have HH_ := Lib.hid (own_blk_far (base := 0) HO.out hg_ HH.out)
  have HB_ := Lib.hid (own_below_far HO.out hg_ HB.out HGW.out)
  clear ho_ hg_ hA_ hn3 hac HH HB HO HSL HONE HN HNL
  have HO := HO_; have HN := HN_; have HH := HH_; have HB := HB_; have HNL := HL_
  clear HO_ HN_ HH_ HB_ HL_
  try clear w_
  rename World => w_
  have c0 := HH.out.at_ (ent_at HXO.out).2.2.1
  go_wp2_with fail
  refine (rnum_any na _ (by omega)).mono ?_
  rintro e w2_ ⟨A2, d2, rfl, ho_, hc_, hb_⟩
  have HSL := Lib.hid (Sl.of_own ho_)
  have HONE := Lib.hid (all_bytes (numB na))
  clear ho_ hc_ c0
  have HH_ := Lib.hid (HH.out.grow hb_)
  have HB_ := Lib.hid (HB.out.grow' hb_)
  have HO_ := Lib.hid (HO.out.grow hb_)
  clear HH HB HO
  have HH := HH_
  have HB := HB_
  have HO := HO_
  clear HH_ HB_ HO_
  clear hb_
  try clear w_
  rename World => w_
  have hn_ := HNL.out
  have hgl_ := HH.out.lt
  go_wp2_with (at_builtin; refine wpl_apps rfl rfl el_u8 HO.out rfl HSL.out rfl HONE.out (by omega) (by omega) (by omega) ?_)
  clear hn_ hgl_
  intro A3 c3 w3 ho_ hg_ hA_
  obtain ⟨n3, hn3⟩ : ∃ k, k = n2 + (numB na).length := ⟨_, rfl⟩
  obtain ⟨ac3, hac⟩ : ∃ k, k = ac2 ++ numB na := ⟨_, rfl⟩
  rw [← hn3] at ho_ ⊢
  have HO_ := Lib.hid (show w3.ownsRow (gh + 1) 5 1 (.slice A3 n3 c3) n3 (ac3.map B) by rw [hac, List.map_append]; exact ho_)
  have HN_ := Lib.hid (show n3 = ac3.length by rw [hac, List.length_append, hn3, HN.out])
  have HL_ := Lib.hid (show n3 ≤ 128 by rw [hn3]; have := HNL.out; omega)
  have HAC3 := Lib.hid hac
  have HH_ := Lib.hid (own_blk_far (base := 0) HO.out hg_ HH.out)
  have HB_ := Lib.hid (own_below_far HO.out hg_ HB.out HGW.out)
  clear ho_ hg_ hA_ hn3 hac HH HB HO HSL HONE HN HNL
  have HO := HO_; have HN := HN_; have HH := HH_; have HB := HB_; have HNL := HL_
  clear HO_ HN_ HH_ HB_ HL_
  try clear w_
  rename World => w_
  have c0 := HH.out.at_ (ent_at HXO.out).2.2.2.1
  go_wp2_with fail
  refine (rnum_any ny _ (by omega)).mono ?_
  rintro e w2_ ⟨A2, d2, rfl, ho_, hc_, hb_⟩
  have HSL := Lib.hid (Sl.of_own ho_)
  have HONE := Lib.hid (all_bytes (numB ny))
  clear ho_ hc_ c0
  have HH_ := Lib.hid (HH.out.grow hb_)
  have HB_ := Lib.hid (HB.out.grow' hb_)
  have HO_ := Lib.hid (HO.out.grow hb_)
  clear HH HB HO
  have HH := HH_
  have HB := HB_
  have HO := HO_
  clear HH_ HB_ HO_
  clear hb_
  try clear w_
  rename World => w_
  have hn_ := HNL.out
  have hgl_ := HH.out.lt
  go_wp2_with (at_builtin; refine wpl_apps rfl rfl el_u8 HO.out rfl HSL.out rfl HONE.out (by omega) (by omega) (by omega) ?_)
  clear hn_ hgl_
  intro A4 c4 w3 ho_ hg_ hA_
  obtain ⟨n4, hn3⟩ : ∃ k, k = n3 + (numB ny).length := ⟨_, rfl⟩
  obtain ⟨ac4, hac⟩ : ∃ k, k = ac3 ++ numB ny := ⟨_, rfl⟩
  rw [← hn3] at ho_ ⊢
  have HO_ := Lib.hid (show w3.ownsRow (gh + 1) 5 1 (.slice A4 n4 c4) n4 (ac4.map B) by rw [hac, List.map_append]; exact ho_)
  have HN_ := Lib.hid (show n4 = ac4.length by rw [hac, List.length_append, hn3, HN.out])
  have HL_ := Lib.hid (show n4 ≤ 160 by rw [hn3]; have := HNL.out; omega)
  have HAC4 := Lib.hid hac
  have HH_ := Lib.hid (own_blk_far (base := 0) HO.out hg_ HH.out)
  have HB_ := Lib.hid (own_below_far HO.out hg_ HB.out HGW.out)
  clear ho_ hg_ hA_ hn3 hac HH HB HO HSL HONE HN HNL
  have HO := HO_; have HN := HN_; have HH := HH_; have HB := HB_; have HNL := HL_
  clear HO_ HN_ HH_ HB_ HL_
  try clear w_
  rename World => w_
  have c0 := HH.out.at_ (ent_at HXO.out).2.2.2.2
  go_wp2_with fail
  refine (rnum_any np _ (by omega)).mono ?_
  rintro e w2_ ⟨A2, d2, rfl, ho_, hc_, hb_⟩
  have HSL := Lib.hid (Sl.of_own ho_)
  have HONE := Lib.hid (all_bytes (numB np))
  clear ho_ hc_ c0
  have HH_ := Lib.hid (HH.out.grow hb_)
  have HB_ := Lib.hid (HB.out.grow' hb_)
  have HO_ := Lib.hid (HO.out.grow hb_)
  clear HH HB HO
  have HH := HH_
  have HB := HB_
  have HO := HO_
  clear HH_ HB_ HO_
  clear hb_
  try clear w_
  rename World => w_
  have hn_ := HNL.out
  have hgl_ := HH.out.lt
  go_wp2_with (at_builtin; refine wpl_apps rfl rfl el_u8 HO.out rfl HSL.out rfl HONE.out (by omega) (by omega) (by omega) ?_)
  clear hn_ hgl_
  intro A5 c5 w3 ho_ hg_ hA_
  obtain ⟨n5, hn3⟩ : ∃ k, k = n4 + (numB np).length := ⟨_, rfl⟩
  obtain ⟨ac5, hac⟩ : ∃ k, k = ac4 ++ numB np := ⟨_, rfl⟩
  rw [← hn3] at ho_ ⊢
  have HO_ := Lib.hid (show w3.ownsRow (gh + 1) 5 1 (.slice A5 n5 c5) n5 (ac5.map B) by rw [hac, List.map_append]; exact ho_)
  have HN_ := Lib.hid (show n5 = ac5.length by rw [hac, List.length_append, hn3, HN.out])
  have HL_ := Lib.hid (show n5 ≤ 192 by rw [hn3]; have := HNL.out; omega)
  have HAC5 := Lib.hid hac
  have HH_ := Lib.hid (own_blk_far (base := 0) HO.out hg_ HH.out)
  have HB_ := Lib.hid (own_below_far HO.out hg_ HB.out HGW.out)
  clear ho_ hg_ hA_ hn3 hac HH HB HO HSL HONE HN HNL
  have HO := HO_; have HN := HN_; have HH := HH_; have HB := HB_; have HNL := HL_
  clear HO_ HN_ HH_ HB_ HL_
  try clear w_
  rename World => w_
  have HEQ := Lib.hid (show ac5 = numB nk ++ numB ns ++ tx ++ numB na ++ numB ny ++ numB np by rw [HAC5.out, HAC4.out, HAC3.out, HAC2.out, HAC1.out])
  go_wp2_with fail
  go_ret
  have ho := HO.out
  rw [HN.out, HEQ.out] at ho ⊢
  rw [HFE.out]
  exact ⟨_, _, rfl, Sl.of_own ho, own_cap1 ho, HB.out⟩
end Go.Proofs.YtphmefhnffoafaaDoor

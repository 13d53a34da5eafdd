/- Arguments opened: digests, lists of digests. -/
import Derived.Test.YtphmefhnffoafaaDoorCertFormsT7
import Derived.Test.YtphmefhnffoafaaDoorCertFormsT22
import Derived.Test.YtphmefhnffoafaaDoorCertFormsT17
import Derived.Test.YtphmefhnffoafaaDoorCertFormsT18
import Derived.Test.YtphmefhnffoafaaDoorCertFormsT1
set_option linter.unusedSimpArgs false
/- Arguments opened: digests, lists of digests. -/
namespace Go.Proofs.YtphmefhnffoafaaDoor
open Go.RowKit Go.ChangeShapes Go.WideShapes
set_option linter.unusedVariables false
set_option maxRecDepth 100000
section
variable {H : Type} {enc : TypeId × Value → H} {w : World} {r : Reach} {b0 base : Nat} {spare : Nat → Bool} {held : Bool}
end
end Go.Proofs.YtphmefhnffoafaaDoor
/- Certificates in memory; arguments opened. Printed by a program. -/
namespace Go.Proofs.YtphmefhnffoafaaDoor
open Go.RowKit Go.ChangeShapes Go.WideShapes
set_option linter.unusedVariables false
set_option maxRecDepth 100000
theorem cells_cert : Tryd.prog.cellsOf 74 = 137 := by kernel_rfl
theorem cells_sid : Tryd.prog.cellsOf 72 = 1 := by kernel_rfl
theorem row_cert : RowT Tryd.prog 74 137 := ⟨_, Tryd.underlying74, by kernel_rfl, by kernel_rfl⟩
section
variable {H : Type} {enc : TypeId × Value → H} {w : World} {r : Reach} {b0 base : Nat} {spare : Nat → Bool} {held : Bool}
theorem trod_hdr {fuel : Nat} {cs : List Value} {y : DataW H × List MemPlace} (hl0 : cs.length = 67) (hf : DataW.trod enc Tryd.prog w base spare held fuel 25 cs = some y) :
    ∃ x : Hdr, cs = hdrV x ∧ x.ok := by
  obtain ⟨xs, n, _, _, hl, hxs, hg⟩ := DataW.trod_struct Tryd.underlying25 hf
  replace hg := fun i f h => hg i f h
  have hxs5 : xs.length = 5 := hxs
  obtain ⟨y0, h0⟩ := got (hg 0 _ rfl) (by omega)
  obtain ⟨y1, h1⟩ := got (hg 1 _ rfl) (by omega)
  obtain ⟨y2, h2⟩ := got (hg 2 _ rfl) (by omega)
  obtain ⟨y3, h3⟩ := got (hg 3 _ rfl) (by omega)
  obtain ⟨y4, h4⟩ := got (hg 4 _ rfl) (by omega)
  replace h0 : DataW.trod enc Tryd.prog w base spare held n 3 ((cs.drop 0).take (Tryd.prog.cellsOf 3)) = some y0 := h0
  replace h1 : DataW.trod enc Tryd.prog w base spare held n 3 ((cs.drop 1).take (Tryd.prog.cellsOf 3)) = some y1 := h1
  replace h2 : DataW.trod enc Tryd.prog w base spare held n 3 ((cs.drop 2).take (Tryd.prog.cellsOf 3)) = some y2 := h2
  replace h3 : DataW.trod enc Tryd.prog w base spare held n 23 ((cs.drop 3).take (Tryd.prog.cellsOf 23)) = some y3 := h3
  replace h4 : DataW.trod enc Tryd.prog w base spare held n 23 ((cs.drop 35).take (Tryd.prog.cellsOf 23)) = some y4 := h4
  rw [cells_int] at h0
  rw [cells_int] at h1
  rw [cells_int] at h2
  rw [cells_id] at h3
  rw [cells_id] at h4
  obtain ⟨z0, e0, _, w0⟩ := DataW.trod_int Tryd.underlying3 h0
  obtain ⟨z1, e1, _, w1⟩ := DataW.trod_int Tryd.underlying3 h1
  obtain ⟨z2, e2, _, w2⟩ := DataW.trod_int Tryd.underlying3 h2
  obtain ⟨d3, e3, l3⟩ := trod_bytes Tryd.underlying23 Tryd.underlying5 cells_u8 cells_id h3
  obtain ⟨d4, e4, l4⟩ := trod_bytes Tryd.underlying23 Tryd.underlying5 cells_u8 cells_id h4
  refine ⟨⟨z0, z1, z2, d3, d4⟩, ?_, i64_of w0, i64_of w1, i64_of w2, l3, l4⟩
  have a5 : cs.drop 67 = [] := List.drop_of_length_le (by omega)
  have a4 := cut_eq e4 a5
  have a3 := cut_eq e3 a4
  have a2 := cut_eq e2 a3
  have a1 := cut_eq e1 a2
  have a0 := cut_eq e0 a1
  rw [List.drop_zero] at a0
  rw [a0]; simp [hdrV]
theorem trod_ent {fuel : Nat} {cs : List Value} {y : DataW H × List MemPlace} (hl0 : cs.length = 37) (hf : DataW.trod enc Tryd.prog w base spare held fuel 29 cs = some y) :
    ∃ x : Ent, cs = entV x ∧ x.ok := by
  obtain ⟨xs, n, _, _, hl, hxs, hg⟩ := DataW.trod_struct Tryd.underlying29 hf
  replace hg := fun i f h => hg i f h
  have hxs5 : xs.length = 6 := hxs
  obtain ⟨y0, h0⟩ := got (hg 0 _ rfl) (by omega)
  obtain ⟨y1, h1⟩ := got (hg 1 _ rfl) (by omega)
  obtain ⟨y2, h2⟩ := got (hg 2 _ rfl) (by omega)
  obtain ⟨y3, h3⟩ := got (hg 3 _ rfl) (by omega)
  obtain ⟨y4, h4⟩ := got (hg 4 _ rfl) (by omega)
  obtain ⟨y5, h5⟩ := got (hg 5 _ rfl) (by omega)
  replace h0 : DataW.trod enc Tryd.prog w base spare held n 3 ((cs.drop 0).take (Tryd.prog.cellsOf 3)) = some y0 := h0
  replace h1 : DataW.trod enc Tryd.prog w base spare held n 3 ((cs.drop 1).take (Tryd.prog.cellsOf 3)) = some y1 := h1
  replace h2 : DataW.trod enc Tryd.prog w base spare held n 23 ((cs.drop 2).take (Tryd.prog.cellsOf 23)) = some y2 := h2
  replace h3 : DataW.trod enc Tryd.prog w base spare held n 27 ((cs.drop 34).take (Tryd.prog.cellsOf 27)) = some y3 := h3
  replace h4 : DataW.trod enc Tryd.prog w base spare held n 3 ((cs.drop 35).take (Tryd.prog.cellsOf 3)) = some y4 := h4
  replace h5 : DataW.trod enc Tryd.prog w base spare held n 3 ((cs.drop 36).take (Tryd.prog.cellsOf 3)) = some y5 := h5
  rw [cells_int] at h0
  rw [cells_int] at h1
  rw [cells_id] at h2
  rw [cells_u64] at h3
  rw [cells_int] at h4
  rw [cells_int] at h5
  obtain ⟨z0, e0, _, w0⟩ := DataW.trod_int Tryd.underlying3 h0
  obtain ⟨z1, e1, _, w1⟩ := DataW.trod_int Tryd.underlying3 h1
  obtain ⟨d2, e2, l2⟩ := trod_bytes Tryd.underlying23 Tryd.underlying5 cells_u8 cells_id h2
  obtain ⟨z3, e3, _, w3⟩ := DataW.trod_int Tryd.underlying27 h3
  obtain ⟨z4, e4, _, w4⟩ := DataW.trod_int Tryd.underlying3 h4
  obtain ⟨z5, e5, _, w5⟩ := DataW.trod_int Tryd.underlying3 h5
  refine ⟨⟨z0, z1, d2, z3, z4, z5⟩, ?_, i64_of w0, i64_of w1, l2, u64_of w3, i64_of w4, i64_of w5⟩
  have a6 : cs.drop 37 = [] := List.drop_of_length_le (by omega)
  have a5 := cut_eq e5 a6
  have a4 := cut_eq e4 a5
  have a3 := cut_eq e3 a4
  have a2 := cut_eq e2 a3
  have a1 := cut_eq e1 a2
  have a0 := cut_eq e0 a1
  rw [List.drop_zero] at a0
  rw [a0]; simp [entV]
theorem open_cert {v : Value} {d : DataW H} {ps : List MemPlace} (hval : Value.okWide Tryd.prog w r b0 74 v) (h : DataW.Trod enc Tryd.prog w base spare held 74 v d ps) :
    ∃ A n c, ∃ x : Cer, v = .agg (certV (.slice A n c) x).toArray ∧ x.ok ∧ Ids w A n c x.path ∧ c ≤ maxLen := by
  obtain ⟨cs, rfl, hsz⟩ := okWide_struct Tryd.underlying74 hval
  obtain ⟨fuel, hf⟩ := h
  rw [cells_cert] at hsz
  have hls : cs.toList.length = 137 := by simpa using hsz
  obtain ⟨xs, n, _, _, hl, hxs, hg⟩ := DataW.trod_struct Tryd.underlying74 hf
  replace hg := fun i f h => hg i f h
  have hxs5 : xs.length = 4 := hxs
  obtain ⟨y0, h0⟩ := got (hg 0 _ rfl) (by omega)
  obtain ⟨y1, h1⟩ := got (hg 1 _ rfl) (by omega)
  obtain ⟨y2, h2⟩ := got (hg 2 _ rfl) (by omega)
  obtain ⟨y3, h3⟩ := got (hg 3 _ rfl) (by omega)
  replace h0 : DataW.trod enc Tryd.prog w base spare held n 29 ((cs.toList.drop 0).take (Tryd.prog.cellsOf 29)) = some y0 := h0
  replace h1 : DataW.trod enc Tryd.prog w base spare held n 72 ((cs.toList.drop 37).take (Tryd.prog.cellsOf 72)) = some y1 := h1
  replace h2 : DataW.trod enc Tryd.prog w base spare held n 25 ((cs.toList.drop 38).take (Tryd.prog.cellsOf 25)) = some y2 := h2
  replace h3 : DataW.trod enc Tryd.prog w base spare held n 23 ((cs.toList.drop 105).take (Tryd.prog.cellsOf 23)) = some y3 := h3
  rw [cells_entry] at h0
  rw [cells_sid] at h1
  rw [cells_header] at h2
  rw [cells_id] at h3
  obtain ⟨xe, e0, k0⟩ := trod_ent (by rw [List.length_take, List.length_drop]; omega) h0
  obtain ⟨A, m, c, l, e1, l1, m1, x1, s1, k1, _⟩ := open_list0 (fun x : List UInt8 => x.map B) (fun x => x.length = 32) Tryd.underlying72 cells_id (show 0 < 32 by omega) (fun fuel cs y _ h => trod_bytes Tryd.underlying23 Tryd.underlying5 cells_u8 cells_id h) h1
  obtain ⟨xh, e2, k2⟩ := trod_hdr (by rw [List.length_take, List.length_drop]; omega) h2
  obtain ⟨d3, e3, l3⟩ := trod_bytes Tryd.underlying23 Tryd.underlying5 cells_u8 cells_id h3
  refine ⟨A, m, c, ⟨xe, l, xh, d3⟩, ?_, ⟨k0, k1, k2, l3⟩, ⟨s1, l1, k1, m1⟩, x1⟩
  have : cs.toList = certV (.slice A m c) ⟨xe, l, xh, d3⟩ := by
    have a4 : cs.toList.drop 137 = [] := List.drop_of_length_le (by omega)
    have a3 := cut_eq e3 a4
    have a2 := cut_eq e2 a3
    have a1 := cut_eq e1 a2
    have a0 := cut_eq e0 a1
    rw [List.drop_zero] at a0
    rw [a0]; simp [certV]
  rw [show cs = cs.toList.toArray from rfl, this]
end
end Go.Proofs.YtphmefhnffoafaaDoor
/- The contract of the document's Next. Printed by mknext.py. -/
namespace Go.Proofs.YtphmefhnffoafaaDoor
open Go.RowKit Go.Shelf
set_option linter.unusedVariables false
end Go.Proofs.YtphmefhnffoafaaDoor
/- The document's answer of layer 1 (the same bytes), and lists of lists of bytes that were handed back. -/
namespace Go.Proofs.YtphmefhnffoafaaDoor
open Go.RowKit Go.Shelf
set_option linter.unusedVariables false
def KeepC (w : World) (a : Addr) (v : Value) : Prop := w.cell? a = some v
theorem KeepC.grow {w w' : World} {a : Addr} {v : Value} (h : KeepC w a v) (k : Grow w w') : KeepC w' a v := by
  unfold KeepC at *
  rw [k.cell (World.block_lt_of_cell? w _ h)]; exact h
def HV (xs : List Value) : Prop := xs.length = 67 ∧ ∀ u ∈ xs, u.oneCell' = true
theorem HV.len {xs : List Value} (h : HV xs) : xs.length = 67 := h.1
theorem hv_of {x : Hdr} (h : x.ok) : HV (hdrV x) := ⟨hdrV_length h, hdr_one x⟩
theorem len_header : (hdrV noHdr).length = 67 := hdrV_length noHdr_ok
theorem zero_header : (Tryd.prog.info? 25).map (·.zero) = some (some (.agg (hdrV noHdr).toArray)) := zero_hdr2
set_option maxRecDepth 100000 in
set_option maxHeartbeats 1000000 in
theorem bytes1_any {res : Bool} {A A2 : Option Addr} {n c n2 c2 : Nat} {xs ys : List UInt8} (hres : decide (xs = ys) = res) (w : World) (h1 : Sl w w.heap.size 1 A n (xs.map B)) (h2 : Sl w w.heap.size 1 A2 n2 (ys.map B)) (hn : n ≤ 1000000) :
    Calls Tryd.prog 18 #[.slice A n c, .slice A2 n2 c2] w fun e w' => e = .returned (.bool res) ∧ Below w.heap.size w w' := by
  have H1 := Lib.hid h1; have H2 := Lib.hid h2
  have HL1 := Lib.hid (show xs.length = n by have := h1.len; simpa using this)
  have HL2 := Lib.hid (show ys.length = n2 by have := h2.len; simpa using this)
  have HRES := Lib.hid hres
  clear h1 h2 hres
  by_cases hnn : n = n2
  · subst hnn
    have z1 : ((n : Int) != (n : Int)) = false := by simp
    go_enter Tryd.func18, Tryd.ntmps18
    go_wp2_with fail
    go_loopw [5] (fun i wr => ∃ k : Nat, k ≤ n ∧ i = .int .i64 k ∧ Hid (xs.take k = ys.take k) ∧ Hid (Below w.heap.size w wr)) (fun i _ => n - (intOf i).toNat)
    case atStart => exact ⟨0, by omega, rfl, Lib.hid (by simp), Lib.hid (Below.refl _ _)⟩
    case round =>
      obtain ⟨k, hk, rfl, heq, hbw⟩ := hrel
      by_cases hlt : k < n
      · have HB := hbw
        have H1A := Lib.hid ((H1.out.below HB.out).more HB.out.size)
        have H2A := Lib.hid ((H2.out.below HB.out).more HB.out.size)
        obtain ⟨x, hx⟩ : ∃ x, xs[k]? = some x := ⟨_, List.getElem?_eq_getElem (by rw [HL1.out]; exact hlt)⟩
        obtain ⟨y, hy⟩ : ∃ y, ys[k]? = some y := ⟨_, List.getElem?_eq_getElem (by rw [HL2.out]; exact hlt)⟩
        have HX := Lib.hid hx; have HY := Lib.hid hy
        clear hx hy
        by_cases hxy : x = y
        · subst hxy
          try go_wp2_with fail
          repeat' (first | (with_reducible refine wp_plan (id := 6) Grow [0,0,0,2,0,0,0,2,0] (.get 0 (.get 1 (.get 2 (.get 3 (.get 4 (.get 5 (.get 6 (.get 7 (.get 8 .done))))))))) (by kernel_rfl) (by kernel_rfl) Grow.refl Grow.trans ?_) | go_values | go_skip | go_guarded | go_step | go_upon | go_back)
          intro w_ hd_
          have hb_ := hd_.grow
          have HB_ := Lib.hid (HB.out.grow' hb_)
          clear HB
          have HB := HB_
          clear HB_
          have H1A_ := Lib.hid (H1A.out.grow hb_)
          clear H1A
          have H1A := H1A_
          clear H1A_
          have H2A_ := Lib.hid (H2A.out.grow hb_)
          clear H2A
          have H2A := H2A_
          clear H2A_
          clear hb_ hd_
          obtain ⟨b1, o1, u1, rfl, hb1, hu1, hc1⟩ := H1A.out.at_ hlt
          obtain ⟨b2, o2, u2, rfl, hb2, hu2, hc2⟩ := H2A.out.at_ hlt
          obtain rfl : u1 = .int .u8 (b8 x) := by rw [List.getElem?_map, HX.out] at hu1; exact (Option.some.inj hu1).symm
          obtain rfl : u2 = .int .u8 (b8 x) := by rw [List.getElem?_map, HY.out] at hu2; exact (Option.some.inj hu2).symm
          clear hb1 hb2 hu1 hu2
          repeat (first | (refine pl_calm rfl rfl (by first | exact wanted_none rfl | (go_simp; done) | rfl) (fun w_ => by first | (go_simp; rfl) | (go_simp; done) | rfl) (fun K hK => ?_); go_simp; refine hK _ _ ?_; clear hK K) | (refine pl_skip rfl (by first | (go_simp; done) | rfl) (fun K hK => ?_); go_simp; refine hK _ _ ?_; clear hK K) | (refine pl_skipa rfl (by first | (go_simp; done) | rfl) (fun K hK => ?_); go_simp; refine hK _ _ ?_; clear hK K) | (refine pl_load rfl rfl (by first | exact wanted_none rfl | (go_simp; done) | rfl) rfl (by first | rfl | (go_simp; rfl)) (by kernel_rfl) (by first | exact hc1 | exact hc2) (fun K hK => ?_); go_simp; refine hK _ _ ?_; clear hK K) | (refine pl_loadnow rfl rfl (by first | exact wanted_none rfl | (go_simp; done) | rfl) rfl (by first | rfl | (go_simp; rfl)) (by kernel_rfl) (by first | exact hc1 | exact hc2) (fun K hK => ?_); go_simp; refine hK _ _ ?_; clear hK K))
          refine pl_done ?_
          clear hc1 hc2
          have HE := Lib.hid (show xs.take (k + 1) = ys.take (k + 1) by rw [List.take_add_one, List.take_add_one, heq.out, HX.out, HY.out])
          go_wp2_with fail
          go_roundw
          case rel => exact ⟨k + 1, by omega, by go_num, HE, HB⟩
          case measure => simp [intOf]; omega
        · have hbb : ((b8 x) != (b8 y)) = true := by
            have : b8 x ≠ b8 y := fun h => hxy (b8_inj h)
            simpa using this
          have HF := Lib.hid (show res = false by
            rw [← HRES.out]
            have : xs ≠ ys := fun h => by
              subst h
              have h1 := HX.out
              rw [HY.out] at h1
              exact hxy (Option.some.inj h1).symm
            simpa using this)
          have hne : b8 x ≠ b8 y := fun h => hxy (b8_inj h)
          have hq := eq_false hne
          clear hxy
          try go_wp2_with fail
          repeat' (first | (with_reducible refine wp_plan (id := 6) Grow [0,0,0,2,0,0,0,2,0] (.get 0 (.get 1 (.get 2 (.get 3 (.get 4 (.get 5 (.get 6 (.get 7 (.get 8 .done))))))))) (by kernel_rfl) (by kernel_rfl) Grow.refl Grow.trans ?_) | go_values | go_skip | go_guarded | go_step | go_upon | go_back)
          intro w_ hd_
          have hb_ := hd_.grow
          have HB_ := Lib.hid (HB.out.grow' hb_)
          clear HB
          have HB := HB_
          clear HB_
          have H1A_ := Lib.hid (H1A.out.grow hb_)
          clear H1A
          have H1A := H1A_
          clear H1A_
          have H2A_ := Lib.hid (H2A.out.grow hb_)
          clear H2A
          have H2A := H2A_
          clear H2A_
          clear hb_ hd_
          obtain ⟨b1, o1, u1, rfl, hb1, hu1, hc1⟩ := H1A.out.at_ hlt
          obtain ⟨b2, o2, u2, rfl, hb2, hu2, hc2⟩ := H2A.out.at_ hlt
          obtain rfl : u1 = .int .u8 (b8 x) := by rw [List.getElem?_map, HX.out] at hu1; exact (Option.some.inj hu1).symm
          obtain rfl : u2 = .int .u8 (b8 y) := by rw [List.getElem?_map, HY.out] at hu2; exact (Option.some.inj hu2).symm
          clear hb1 hb2 hu1 hu2
          repeat (first | (refine pl_calm rfl rfl (by first | exact wanted_none rfl | (go_simp; done) | rfl) (fun w_ => by first | (go_simp; rfl) | (go_simp; done) | rfl) (fun K hK => ?_); go_simp; refine hK _ _ ?_; clear hK K) | (refine pl_skip rfl (by first | (go_simp; done) | rfl) (fun K hK => ?_); go_simp; refine hK _ _ ?_; clear hK K) | (refine pl_skipa rfl (by first | (go_simp; done) | rfl) (fun K hK => ?_); go_simp; refine hK _ _ ?_; clear hK K) | (refine pl_load rfl rfl (by first | exact wanted_none rfl | (go_simp; done) | rfl) rfl (by first | rfl | (go_simp; rfl)) (by kernel_rfl) (by first | exact hc1 | exact hc2) (fun K hK => ?_); go_simp; refine hK _ _ ?_; clear hK K) | (refine pl_loadnow rfl rfl (by first | exact wanted_none rfl | (go_simp; done) | rfl) rfl (by first | rfl | (go_simp; rfl)) (by kernel_rfl) (by first | exact hc1 | exact hc2) (fun K hK => ?_); go_simp; refine hK _ _ ?_; clear hK K))
          refine pl_done ?_
          clear hc1 hc2
          go_wp2_with fail
          go_ret
          exact ⟨by rw [HF.out]; rfl, HB.out⟩
      · obtain rfl : k = n := by omega
        have HT := Lib.hid (show res = true by
          rw [← HRES.out]
          have h := heq.out
          rw [List.take_of_length_le (by rw [HL1.out]; exact Nat.le_refl _), List.take_of_length_le (by rw [HL2.out]; exact Nat.le_refl _)] at h
          simpa using h)
        go_wp2_with fail
        go_ret
        exact ⟨by rw [HT.out]; rfl, hbw.out⟩
  · have z1 : ((n : Int) != (n2 : Int)) = true := by simp; omega
    have HF := Lib.hid (show res = false by
      rw [← HRES.out]
      have : xs ≠ ys := fun h => by subst h; exact hnn (by rw [← HL1.out, ← HL2.out])
      simpa using this)
    have hz : ¬ ((n : Int) = (n2 : Int)) := by omega
    have hzq := eq_false hz
    go_enter Tryd.func18, Tryd.ntmps18
    go_wp2_with fail
    go_ret
    exact ⟨by rw [HF.out]; rfl, Below.refl _ _⟩
end Go.Proofs.YtphmefhnffoafaaDoor
/- Rows of headers: the chain that HeaderRow lays (plain), and slices of headers. -/
namespace Go.Proofs.YtphmefhnffoafaaDoor
open Go.RowKit Go.Shelf
set_option linter.unusedVariables false
theorem map_B_injH : ∀ {a b : List UInt8}, a.map B = b.map B → a = b
  | [], [], _ => rfl
  | [], _ :: _, h => by simp at h
  | _ :: _, [], h => by simp at h
  | x :: a, y :: b, h => by
    simp only [List.map_cons, List.cons.injEq] at h
    have h1 : x = y := by have := h.1; unfold B at this; exact b8_inj (by injection this)
    rw [h1, map_B_injH h.2]
theorem hdrV_inj {x y : Hdr} (hx : x.ok) (hy : y.ok) (h : hdrV x = hdrV y) : x = y := by
  obtain ⟨a1, a2, a3, p, r⟩ := x
  obtain ⟨b1, b2, b3, q, s⟩ := y
  have h0 : [Value.int .i64 a1, .int .i64 a2, .int .i64 a3] ++ (p.map B ++ r.map B) = [Value.int .i64 b1, .int .i64 b2, .int .i64 b3] ++ (q.map B ++ s.map B) := by
    simpa [hdrV] using h
  obtain ⟨h1, h2⟩ := List.append_inj h0 rfl
  obtain ⟨h3, h4⟩ := List.append_inj h2 (by rw [List.length_map, List.length_map]; exact hx.2.2.2.1.trans hy.2.2.2.1.symm)
  have e1 := map_B_injH h3
  have e2 := map_B_injH h4
  simp only [List.cons.injEq, Value.int.injEq, true_and, and_true] at h1
  obtain ⟨rfl, rfl, rfl⟩ := h1
  rw [e1, e2]
end Go.Proofs.YtphmefhnffoafaaDoor
/- The walk's halt at one operation: what follows is done by hand. No program in sight. -/
namespace Go.Proofs.YtphmefhnffoafaaDoor
open Go.RowKit
set_option linter.unusedVariables false
def StopT (p : Prop) : Prop := p
theorem wpl_stop {P : Program} {ops : Array Oper} {rest : List Oper} {o : Oper} {a : Act} {w : World} {Q : Exit → Act → World → Prop} (h : StopT (wpList P ops Q (o :: rest) a w)) : wpList P ops Q (o :: rest) a w := h
theorem stop_go {p : Prop} (h : p) : StopT p := h
end Go.Proofs.YtphmefhnffoafaaDoor

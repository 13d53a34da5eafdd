/- The walk of seisinlaw21.LocksOwn. -/
import Derived.Test.YtolbbhbfbpiljaaLockK
import Derived.Test.YtolbbhbfbpiljaaOpenM
import Derived.Deep.CutRange
namespace Go.Proofs.Ytolbbhbfbpiljaa
open Go.RowKit Go.Sort
set_option linter.unusedVariables false
theorem zero_a256 : (Try.prog.info? 59).map (·.zero) = some (some (.agg (List.replicate 256 (Value.int .i64 0)).toArray)) := by kernel_rfl
theorem ix256 (gn f : Nat) (hf : f < 256) (w : World) : (Instr.indexAt 59 (.pointer (some ⟨gn, 0, none⟩)) (.int .u8 (f : Int))).run Try.prog w = .ok (.pointer (some ⟨gn, f, none⟩)) w := by
  have h : Try.prog.underlying 59 = some (.array (Try.prog.arrayLen 59) (Try.prog.elem 59)) := by kernel_rfl
  have h1 : Try.prog.arrayLen 59 = 256 := by kernel_rfl
  have h2 : (Try.prog.info? (Try.prog.elem 59)).map (·.size) = some 1 := by kernel_rfl
  obtain ⟨i, h3, h4⟩ := Option.map_eq_some_iff.1 h2
  rw [run_indexAt_array (P := Try.prog) w 59 ⟨gn, 0, none⟩ .u8 (f : Int) h, h1, if_pos (by omega)]
  simp [sizeOf, typeInfo, h3, h4, Addr.add_lit]
theorem LocksAt.grow {w w' : World} {g b : Nat} {L : LocksL} {s : Int} (h : LocksAt w g b L s) (k : Grow w w') : LocksAt w' g b L s := h.call k
theorem built_idk0 (parts : List (Nat × Value)) : Try.prog.built 29 parts = Instr.fill (fun i => some (i * 1, 1)) zidV.toArray parts := by kernel_rfl
theorem built_idk (f : Nat) (hf : f < 256) : Try.prog.built 29 [(0, .int .u8 (f : Int))] = some ((idx f).map B).toArray := by
  rw [built_idk0, fill_cons (off := 0) (s := 1) (cs := [.int .u8 (f : Int)]) rfl rfl rfl (by rw [zidV_len]; omega), fill_nil]
  refine congrArg (fun l : List Value => some l.toArray) ?_
  unfold idx
  rw [List.map_cons, show B (UInt8.ofNat f) = .int .u8 (f : Int) by unfold B; rw [b8_ofNatL hf]]
  rfl
theorem byte_at {w : World} {B0 n : Nat} {A : Option Addr} {is : List UInt8} (h : Sl w B0 1 A n (is.map B)) {k : Nat} (hk : k < n) : ∃ b off, A = some ⟨b, off, none⟩ ∧ b < B0 ∧ w.cell? ⟨b, off + k, none⟩ = some (.int .u8 (fI is k : Int)) := by
  obtain ⟨b, off, u, hA, hb, hu, hc⟩ := h.at_ hk
  rw [List.getElem?_map] at hu
  obtain ⟨x, hx, rfl⟩ := Option.map_eq_some_iff.1 hu
  refine ⟨b, off, hA, hb, ?_⟩
  rw [hc]
  unfold fI
  rw [hx]; rfl
theorem kput5 (g b : Nat) (is : List UInt8) (k : Nat) (w : World) (hk : k < 60) (h : LocksAt w g b (LO is k) (sumA (LO is k))) :
    Calls Try.prog 19 #[.pointer (some ⟨g, 0, none⟩), pkV k 0, idxV (fI is k : Int), coinA (cn ((k : Int) + 1))] w fun e w' => e = .returned (.int .i64 0) ∧ Touched [g, b] w w' ∧ LocksAt w' g b (LO is (k + 1)) (sumA (LO is (k + 1))) := by
  have h1 := sumA_LO is k (by omega)
  have h2 := putQ_LO is k hk
  have := kput4 g b (LO is k) (sumA (LO is k)) k 0 (idx (fI is k)) ((k : Int) + 1) w h (by omega) (by omega) (by omega) (idx_len _) (by omega) (by omega) h1.1 (by omega) 0 h2.1
  rw [idxV_eq (fI_lt is k)] at this
  refine this.mono ?_
  rintro e w' ⟨rfl, ht, hc, -⟩
  refine ⟨rfl, ht, ?_⟩
  have := hc rfl
  rw [h2.2, ← LO_succ] at this
  exact this
/-- The phases of 'n[i] = ..'. -/
def cntC (w0 : World) (gn : Nat) (t : TypeId) (ns : List Value) (f : Nat) (v : Value) (k : Nat) (w : World) : Prop :=
  Touched [gn] w0 w ∧ w.heap.size = w0.heap.size ∧ Blk w gn t (if k = 0 then ns else ns.set f v)
theorem cntC.put {w0 w : World} {gn f : Nat} {t : TypeId} {ns : List Value} {v : Value} (h : cntC w0 gn t ns f v 0 w) : cntC w0 gn t ns f v 1 (w.setCell ⟨gn, f, none⟩ v) := by
  obtain ⟨h1, h2, h3⟩ := h
  exact ⟨h1.grown (grown_set w gn f v) (.inl (by simp)), by simpa using h2, h3.set_ f v⟩
set_option maxRecDepth 100000 in
set_option maxHeartbeats 4000000 in
theorem walk_LocksOwn (A : Option Addr) (n c : Nat) (is : List UInt8) (o : Int) (w : World) (hs : Sl w w.heap.size 1 A n (is.map B)) (hn : n ≤ c) (hc : c ≤ maxLen) (ho : (Lit.int .u8 o).wf = true) :
    Calls Try.prog 6 #[.slice A n c, .int .u8 o] w fun e w' => e = .returned (.bool true) ∧ Below w.heap.size w w' := by
  obtain ⟨x0, x1⟩ : 0 ≤ o ∧ o ≤ 255 := by simpa [Lit.wf, IntKind.min, IntKind.max, IntKind.signed, IntKind.bits] using ho
  obtain ⟨oo, rfl⟩ := Int.eq_ofNat_of_zero_le x0
  have ho256 : oo < 256 := by omega
  have HS := Lib.hid hs
  clear hs hc ho
  rcases Nat.lt_or_ge 60 n with hb1 | hb1
  · go_enter Try.func6, Try.ntmps6
    have q1 : (60 : Int) < (n : Int) := by omega
    go_wp2_with fail
    refine (awake21_any _).mono ?_
    rintro e w9 ⟨rfl, hb9⟩
    go_wp2_with fail
    go_ret
    exact ⟨rfl, hb9⟩
  go_enter Try.func6, Try.ntmps6
  go_wp2_with fail
  refine (knew_any _).mono ?_
  rintro e w1 ⟨g, b, rfl, hc, hg, hb, hbw⟩
  have HC1 := Lib.hid hc; have HB1 := Lib.hid hbw
  have HGB := Lib.hid (show w.heap.size ≤ g ∧ w.heap.size ≤ b ∧ g < w1.heap.size ∧ b < w1.heap.size from ⟨hg, hb, hc.ltg, hc.ltb⟩)
  clear hc hbw hg hb
  go_wp2_with (first | (with_reducible refine wpl_alloc (o := ⟨some 6, _, _, _, _, _⟩) rfl rfl zero_a256 ?_))
  intro w2 hb2 hbw2 hsz2
  have HN2 := Lib.hid (show Blk w2 w1.heap.size 59 (nsV is 0) by rw [nsV_zero]; exact hb2)
  have HC2 := Lib.hid (HC1.out.call hbw2)
  have HB2 := Lib.hid (HB1.out.trans (hbw2.mono HB1.out.size))
  have HNG := Lib.hid (show g < w1.heap.size ∧ b < w1.heap.size ∧ w.heap.size ≤ w1.heap.size from ⟨HGB.out.2.2.1, HGB.out.2.2.2, HB1.out.size⟩)
  clear hb2 hbw2 hsz2 HC1 HB1
  obtain ⟨gn, hgn⟩ : ∃ q, q = w1.heap.size := ⟨_, rfl⟩
  rw [← hgn] at HN2 HNG HGB ⊢
  clear hgn
  try clear w1
  have HC0 := Lib.hid (show LocksAt w2 g b (LO is 0) (sumA (LO is 0)) from HC2.out)
  clear HC2
  go_upto_block 0 with fail
  go_cut [] from 24 (fun wr => Hid (LocksAt wr g b (LO is n) (sumA (LO is n)) ∧ Blk wr gn 59 (nsV is n) ∧ Below w.heap.size w wr))
  case first =>
    go_wp2_with fail
    go_loopw [7] (fun iv wr => ∃ k : Nat, k ≤ n ∧ iv = .int .i64 k ∧ Hid (LocksAt wr g b (LO is k) (sumA (LO is k)) ∧ Blk wr gn 59 (nsV is k) ∧ Below w.heap.size w wr)) (fun iv _ => n - (intOf iv).toNat)
    case atStart => exact ⟨0, by omega, rfl, Lib.hid ⟨HC0.out, HN2.out, HB2.out⟩⟩
    case round =>
      obtain ⟨k, hk, rfl, hI⟩ := hrel
      clear HC0 HN2 HB2
      have HC := Lib.hid hI.out.1; have HN := Lib.hid hI.out.2.1; have HB := Lib.hid hI.out.2.2
      clear hI
      by_cases hlt : k < n
      · obtain ⟨eb, eo, rfl, hbl, hce⟩ := byte_at HS.out hlt
        have HCE := Lib.hid hce
        have c1 := bcell HB.out HCE.out
        have HP := Lib.hid (kput5 g b is k wr (by omega) HC.out)
        have hf := fI_lt is k
        have hcl := cnt_le is k (fI is k)
        have HNG0 := Lib.hid (nsV_get is k (fI is k) hf)
        have HNS := Lib.hid (nsV_set is k)
        obtain ⟨f, hff⟩ : ∃ f, f = fI is k := ⟨_, rfl⟩
        obtain ⟨ct, hct⟩ : ∃ q, q = cntO is k f := ⟨_, rfl⟩
        rw [← hff] at c1 hf HP HNG0 HNS hcl HCE
        rw [← hct] at HNG0 HNS hcl
        clear hbl hce hff hct
        have HIX := Lib.hid (fun w => ix256 gn f hf w)
        have v1 : IntKind.i64.wrap ((ct : Int) + 1) = (ct : Int) + 1 := IntWalk.i64_in _ (by omega)
        have v2 : IntKind.u64.wrap ((k : Int) + 1) = (k : Int) + 1 := u64_in _ ⟨by omega, by omega⟩
        go_wp2_with fail
        refine Calls.mono (show Calls Try.prog 19 _ wr _ from HP.out) ?_
        rintro e w3 ⟨rfl, ht, hc3⟩
        have HC3 := Lib.hid hc3
        have HN3 := Lib.hid (show Blk w3 gn 59 (nsV is k) from (ht.block gn HN.out.lt (by have := HNG.out; simp; omega)).trans HN.out)
        have HB3 := Lib.hid (HB.out.trans (ht.below (B := w.heap.size) (by have := HGB.out; simp; omega) HB.out.size))
        clear ht hc3 c1 HC HN HB HP
        go_wp2_with fail
        repeat' (first | (with_reducible refine wp_phase (id := 12) (cntC w3 gn 59 (nsV is k) f (.int .i64 ((ct : Int) + 1))) [12] [(0,0),(0,0),(0,0),(0,0),(0,0),(0,0),(0,0),(0,0),(0,0),(0,0),(0,0),(0,0),(0,0)] (by kernel_rfl) (by kernel_rfl) ?_ ?_) | go_values | go_skip | go_guarded | go_step | go_upon | go_back)
        · exact ⟨Touched.of_below (Drawn.all (Drawn.one w3)), rfl, HN3.out.call (Drawn.all (Drawn.one w3))⟩
        have HEC := Lib.hid (show ∀ w', cntC w3 gn 59 (nsV is k) f (.int .i64 ((ct : Int) + 1)) 0 w' → w'.cell? ⟨eb, eo + k, none⟩ = some (.int .u8 (f : Int)) from fun w' h => bcell (HB3.out.trans (h.1.below (B := w.heap.size) (by have := HNG.out; simp; omega) HB3.out.size)) HCE.out)
        have HEN := Lib.hid (show ∀ w', cntC w3 gn 59 (nsV is k) f (.int .i64 ((ct : Int) + 1)) 0 w' → w'.cell? ⟨gn, f, none⟩ = some (.int .i64 (ct : Int)) from fun w' h => Blk.at_ h.2.2 HNG0.out)
        refine ph_value rfl (by first | rfl | go_simp) (fun k_ _ _ w_ hC_ => by first | (go_simp; rfl) | (go_simp; done) | rfl) (fun K hK => ?_)
        go_simp
        refine hK _ ?_
        clear hK K
        refine ph_value rfl (by first | rfl | go_simp) (fun k_ _ _ w_ hC_ => by first | (go_simp; rfl) | (go_simp; done) | rfl) (fun K hK => ?_)
        go_simp
        refine hK _ ?_
        clear hK K
        refine ph_value rfl (by first | rfl | go_simp) (fun k_ _ _ w_ hC_ => by first | (go_simp; rfl) | (go_simp; done) | rfl) (fun K hK => ?_)
        go_simp
        refine hK _ ?_
        clear hK K
        refine ph_value rfl (by first | rfl | go_simp) (fun k_ h1_ h2_ w_ hC_ => by (obtain rfl : k_ = 0 := Nat.le_zero.1 h2_); (have c1 := HEC.out _ hC_); first | rfl | (go_simp; rfl) | go_simp) (fun K hK => ?_)
        go_simp
        refine hK _ ?_
        clear hK K
        refine ph_value rfl (by first | rfl | go_simp) (fun k_ _ _ w_ hC_ => by first | (go_simp; rfl) | (go_simp; done) | rfl) (fun K hK => ?_)
        go_simp
        refine hK _ ?_
        clear hK K
        refine ph_value rfl (by first | rfl | go_simp) (fun k_ _ _ w_ hC_ => by first | (go_simp; rfl) | (go_simp; done) | rfl) (fun K hK => ?_)
        go_simp
        refine hK _ ?_
        clear hK K
        refine ph_value rfl (by first | rfl | go_simp) (fun k_ _ _ w_ hC_ => by first | (go_simp; rfl) | (go_simp; done) | rfl) (fun K hK => ?_)
        go_simp
        refine hK _ ?_
        clear hK K
        refine ph_value rfl (by first | rfl | go_simp) (fun k_ h1_ h2_ w_ hC_ => by (obtain rfl : k_ = 0 := Nat.le_zero.1 h2_); (have c1 := HEC.out _ hC_); first | rfl | (go_simp; rfl) | go_simp) (fun K hK => ?_)
        go_simp
        refine hK _ ?_
        clear hK K
        refine ph_value rfl (by first | rfl | go_simp) (fun k_ _ _ w_ hC_ => by have c1 := HIX.out w_; first | (go_simp; rfl) | (go_simp; done) | rfl) (fun K hK => ?_)
        go_simp
        refine hK _ ?_
        clear hK K
        refine ph_value rfl (by first | rfl | go_simp) (fun k_ h1_ h2_ w_ hC_ => by (obtain rfl : k_ = 0 := Nat.le_zero.1 h2_); (have c1 := HEN.out _ hC_); first | rfl | (go_simp; rfl) | go_simp) (fun K hK => ?_)
        go_simp
        refine hK _ ?_
        clear hK K
        refine ph_value rfl (by first | rfl | go_simp) (fun k_ _ _ w_ hC_ => by first | (go_simp; rfl) | (go_simp; done) | rfl) (fun K hK => ?_)
        go_simp
        refine hK _ ?_
        clear hK K
        refine ph_value rfl (by first | rfl | go_simp) (fun k_ _ _ w_ hC_ => by have c1 := HIX.out w_; first | (go_simp; rfl) | (go_simp; done) | rfl) (fun K hK => ?_)
        go_simp
        refine hK _ ?_
        clear hK K
        refine ph_runs 0 rfl rfl rfl (by first | rfl | go_simp) (fun w' hC => ⟨_, by (have hcl := hC.2.2.at_ HNG0.out); (have hfz := hC.2.2.frozen f); first | (go_simp; rfl) | (go_simp; exact ⟨rfl, rfl⟩) | go_simp, hC.put⟩) ?_
        (intro K hK; go_simp; refine hK _ ?_; clear hK K)
        refine ph_nil ?_
        intro w4 hC4
        have HN4 := Lib.hid (show Blk w4 gn 59 (nsV is (k + 1)) by rw [← HNS.out]; exact hC4.2.2)
        have HC4 := Lib.hid (show LocksAt w4 g b (LO is (k + 1)) (sumA (LO is (k + 1))) from by
          obtain ⟨q1, ⟨e1, c1, q2, q3, q4⟩, q5, q6⟩ := HC3.out
          exact ⟨(hC4.1.block g q1.lt (by have := HNG.out; simp; omega)).trans q1, ⟨e1, c1, (hC4.1.block b (Array.getElem?_eq_some_iff.1 q2).1 (by have := HNG.out; simp; omega)).trans q2, q3, q4⟩, q5, q6⟩)
        have HB4 := Lib.hid (HB3.out.trans (hC4.1.below (B := w.heap.size) (by have := HNG.out; simp; omega) HB3.out.size))
        clear hC4 HEC HEN HC3 HN3 HB3
        go_wp2_with fail
        go_roundw
        case rel => exact ⟨k + 1, by omega, by go_num, Lib.hid ⟨HC4.out, HN4.out, HB4.out⟩⟩
        case measure => simp [intOf]; omega
      · obtain rfl : k = n := by omega
        go_wp2_with fail
        go_meet
        case rel => exact Lib.hid ⟨HC.out, HN.out, HB.out⟩
  case rest =>
    clear HC0 HN2 HB2
    have HC := Lib.hid hcut.out.1; have HN := Lib.hid hcut.out.2.1; have HB := Lib.hid hcut.out.2.2
    clear hcut
    rename World => wk
    have HOF := Lib.hid (of2 g b (LO is n) _ oo wk HC.out ho256 (by rw [LO_length]; omega))
    go_wp2_with fail
    refine Calls.mono (show Calls Try.prog 23 _ wk _ from HOF.out) ?_
    rintro e w5 ⟨A5, c5, ks, rfl, ho5, hp5, hb5⟩
    have HC5 := Lib.hid (HC.out.call hb5)
    have HN5 := Lib.hid (HN.out.call hb5)
    have HB5 := Lib.hid (HB.out.trans (hb5.mono HB.out.size))
    have HO5 := Lib.hid ho5; have HP5 := Lib.hid hp5
    have HKL := Lib.hid (show ks.length = cntO is n oo by have h1 := hp5.length_eq; rw [List.length_map, List.length_map, held_LO is oo ho256 n] at h1; exact h1)
    have HGW := Lib.hid (show g < wk.heap.size ∧ b < wk.heap.size ∧ gn < wk.heap.size ∧ w.heap.size ≤ wk.heap.size from ⟨HC.out.ltg, HC.out.ltb, HN.out.lt, HB.out.size⟩)
    have HSM := Lib.hid (sumA_LO is n (by omega))
    clear ho5 hp5 hb5 HC HN HB HOF
    obtain ⟨zk, hzk⟩ : ∃ q, q = wk.heap.size := ⟨_, rfl⟩
    rw [← hzk] at HO5 HGW
    clear hzk
    have hcn := cnt_le is n oo
    obtain ⟨m, hm⟩ : ∃ q, q = ks.length := ⟨_, rfl⟩
    rw [← hm] at HO5 HKL ⊢
    have HML := Lib.hid hm
    clear hm
    have hmn : m ≤ 60 := by have := HKL.out; omega
    have HNK := Lib.hid (show (ks.map (·.1)).Nodup from HP5.out.nodup_iff.2 ((LO_nd (by omega)).sublist (List.filter_sublist.map _)))
    have HIN := Lib.hid (show ∀ x ∈ ks, x.1 ∈ (LO is n).map (·.1) from fun x hx => by
      have h1 := HP5.out.mem_iff.1 (List.mem_map_of_mem (f := fun x : PtS => x.1) hx)
      obtain ⟨e, he, hex⟩ := List.mem_map.1 h1
      exact List.mem_map.2 ⟨e, (List.mem_filter.1 he).1, hex⟩)
    have HND := Lib.hid (LO_nd (is := is) (k := n) (by omega))
    go_upto_block 2 with fail
    go_cut [] from 62 (fun wr => Hid (LocksAt wr g b (LE is oo n) (sumA (LE is oo n)) ∧ Blk wr gn 59 (nsV is n) ∧ Below w.heap.size w wr))
    case first =>
      go_wp2_with fail
      go_loopw [9] (fun iv wr => ∃ k : Nat, k ≤ m ∧ iv = .int .i64 k ∧ Hid (LocksAt wr g b (freeAll (LO is n) (ks.take k)) (sumA (freeAll (LO is n) (ks.take k))) ∧ sumA (freeAll (LO is n) (ks.take k)) ≤ 61 * n ∧ Blk wr gn 59 (nsV is n) ∧ OwnP wr zk A5 m c5 ks ∧ Below w.heap.size w wr)) (fun iv _ => m - (intOf iv).toNat)
      case atStart => exact ⟨0, by omega, rfl, Lib.hid ⟨HC5.out, HSM.out.2, HN5.out, HO5.out, HB5.out⟩⟩
      case round =>
        obtain ⟨k, hk, rfl, hI⟩ := hrel
        clear HC5 HN5 HO5 HB5
        have HC := Lib.hid hI.out.1; have HSB := Lib.hid hI.out.2.1; have HN := Lib.hid hI.out.2.2.1; have HO := Lib.hid hI.out.2.2.2.1; have HB := Lib.hid hI.out.2.2.2.2
        clear hI
        by_cases hlt : k < m
        · have hkk : ks[k]? = some (ks[k]'(by have := HML.out; omega)) := List.getElem?_eq_getElem _
          obtain ⟨x, hx⟩ : ∃ x, x = ks[k]'(by have := HML.out; omega) := ⟨_, rfl⟩
          rw [← hx] at hkk
          have hls := look_free (L := LO is n) hkk HNK.out HIN.out HND.out
          obtain ⟨cc, hcc⟩ := Option.isSome_iff_exists.1 hls
          have hge := sumA_ge (LK_pos HC.out.ok) hcc
          have hdr := sumA_drop hcc
          have hsn := free_snoc (LO is n) ks hkk
          obtain ⟨L1, hL1⟩ : ∃ q, q = freeAll (LO is n) (ks.take k) := ⟨_, rfl⟩
          rw [← hL1] at hcc hge hdr hsn HC HSB
          have hfr := kfree_any g b L1 (sumA L1) x.1 wr HC.out x.2 (by have := HSB.out; omega) (by rw [hcc]; exact hge.2)
          rw [hcc] at hfr
          have HFR := Lib.hid (show Calls Try.prog 24 #[.pointer (some ⟨g, 0, none⟩), .agg (encPt x).toArray] wr fun e w' => e = .returned (.tuple #[.agg (coinV cc.1).toArray, .bool true]) ∧ Touched [g, b] wr w' ∧ LocksAt w' g b (dropL L1 x.1) (sumA L1 - cc.1.2) from hfr)
          have HSN := Lib.hid hsn; have HDR := Lib.hid hdr; have HGE := Lib.hid hge
          obtain ⟨gb, cur, rfl, hg1, hg2, -⟩ := HO.out.form (by omega)
          have HGG := Lib.hid (show zk ≤ gb ∧ gb < wr.heap.size from ⟨hg1, hg2⟩)
          have HCE := Lib.hid (HO.out.at_ hkk)
          have HXL := Lib.hid (encPt_len x)
          have HCL := Lib.hid (show (coinV cc.1).length = 33 from by
            have h1 := HC.out.ok
            unfold lookL at hcc
            obtain ⟨e, he, hee⟩ := Option.map_eq_some_iff.1 hcc
            rw [← hee]; exact coinV_length (h1.1 e (List.mem_of_find?_eq_some he)).2.1)
          have HC1 := Lib.hid (coinV_one cc.1)
          have HCA := Lib.hid (show 0 ≤ cc.1.2 from hge.1)
          obtain ⟨xs, hxs⟩ : ∃ q, q = encPt x := ⟨_, rfl⟩
          obtain ⟨cs, hcs⟩ : ∃ q, q = coinV cc.1 := ⟨_, rfl⟩
          rw [← hxs, ← hcs] at HFR
          rw [← hxs] at HCE HXL
          rw [← hcs] at HCL HC1
          clear hkk hx hls hcc hge hdr hsn hL1 hfr hxs hcs hg1 hg2
          go_wp2_with (first | (with_reducible refine wpl_loadm (o := ⟨some 73, _, _, _, _, _⟩) rfl rfl row_point HCE.out rfl HXL.out ?_))
          refine HFR.out.mono ?_
          rintro e w6 ⟨rfl, ht, hc6⟩
          have HC6 := Lib.hid (show LocksAt w6 g b (freeAll (LO is n) (ks.take (k + 1))) (sumA (freeAll (LO is n) (ks.take (k + 1)))) by rw [HSN.out, HDR.out]; exact hc6)
          have HS6 := Lib.hid (show sumA (freeAll (LO is n) (ks.take (k + 1))) ≤ 61 * n by rw [HSN.out, HDR.out]; have := HSB.out; have := HCA.out; omega)
          have HN6 := Lib.hid (show Blk w6 gn 59 (nsV is n) from (ht.block gn HN.out.lt (by have := HNG.out; simp; omega)).trans HN.out)
          have HO6 := Lib.hid (show OwnP w6 zk (some ⟨gb, 0, none⟩) m c5 ks from own_of_block HO.out fun q hq => by
            have : q = gb := by simpa using hq.symm
            subst this
            exact ht.block q HGG.out.2 (by have := HGW.out; have := HGG.out; simp; omega))
          have HB6 := Lib.hid (HB.out.trans (ht.below (B := w.heap.size) (by have := HGB.out; simp; omega) HB.out.size))
          have HG6 := Lib.hid (Nat.lt_of_lt_of_le HGG.out.2 ht.size)
          clear ht hc6 HC HSB HN HO HB HFR HCE
          go_wp2_with (first | (with_reducible refine wpl_alloc (o := ⟨some 10, _, _, _, _, _⟩) rfl rfl zero_coin ?_))
          intro w7 hb7 hbw7 hsz7
          have HV7 := Lib.hid hb7
          have HC7 := Lib.hid (HC6.out.call hbw7)
          have HN7 := Lib.hid (HN6.out.call hbw7)
          have HO7 := Lib.hid (OwnP.call HO6.out hbw7)
          have HB7 := Lib.hid (HB6.out.trans (hbw7.mono HB6.out.size))
          have HQ := Lib.hid (show g < w6.heap.size ∧ b < w6.heap.size ∧ gn < w6.heap.size ∧ gb < w6.heap.size ∧ w.heap.size ≤ w6.heap.size from ⟨HC6.out.ltg, HC6.out.ltb, HN6.out.lt, HG6.out, HB6.out.size⟩)
          have HG7 := Lib.hid (Nat.lt_of_lt_of_le HG6.out hbw7.size)
          clear hb7 hbw7 hsz7 HC6 HN6 HO6 HB6 HG6
          obtain ⟨gv, hgv⟩ : ∃ q, q = w6.heap.size := ⟨_, rfl⟩
          rw [← hgv] at HV7 HQ ⊢
          clear hgv
          go_wp2_with (first | (with_reducible refine wpl_storeb (o := ⟨none, .store _ _ _, _, _, _, _⟩) rfl rfl row_coin HV7.out rfl rfl (coinV_length noCoin_ok) HCL.out HC1.out ?_))
          intro w8 hb8 hg8 hs8
          have HC8 := Lib.hid (HC7.out.grown hg8 (by have := HQ.out; simp; omega) (by have := HQ.out; simp; omega))
          have HN8 := Lib.hid (HN7.out.grown hg8 (by have := HQ.out; simp; omega))
          have HO8 := Lib.hid (show OwnP w8 zk (some ⟨gb, 0, none⟩) m c5 ks from own_of_block HO7.out fun q hq => by
            have : q = gb := by simpa using hq.symm
            subst this
            exact hg8.block q HG7.out (by have := HQ.out; simp; omega))
          have HB8 := Lib.hid (HB7.out.grown hg8 HB7.out.size (fun q hq => by cases hq; exact HQ.out.2.2.2.2))
          clear hb8 hg8 hs8 HC7 HN7 HO7 HB7 HV7
          go_wp2_with fail
          go_roundw
          case rel => exact ⟨k + 1, by omega, by go_num, Lib.hid ⟨HC8.out, HS6.out, HN8.out, HO8.out, HB8.out⟩⟩
          case measure => simp [intOf]; omega
        · obtain rfl : k = m := by omega
          have hfe := free_end HP5.out HND.out
          have HCE := Lib.hid (show LocksAt wr g b (LE is oo n) (sumA (LE is oo n)) by
            have h1 := HC.out
            rw [HML.out, List.take_length, hfe] at h1
            exact h1)
          clear hfe
          go_wp2_with fail
          go_meet
          case rel => exact Lib.hid ⟨HCE.out, HN.out, HB.out⟩
    case rest =>
      clear HC5 HN5 HO5 HB5
      have HC := Lib.hid hcut.out.1; have HN := Lib.hid hcut.out.2.1; have HB := Lib.hid hcut.out.2.2
      clear hcut
      rename World => w6
      have i1 := ix256 gn oo ho256 w6
      have c1 := HN.out.at_ (nsV_get is n oo ho256)
      rw [← HKL.out] at c1
      have HLL := Lib.hid (LE_len is oo ho256 n)
      have v1 : IntKind.i64.wrap ((n : Int) - (m : Int)) = (n : Int) - (m : Int) := IntWalk.i64_in _ (by omega)
      have hle : (LE is oo n).length ≤ 1000000 := by have := HLL.out; omega
      have HLE := Lib.hid hle
      have HOF := Lib.hid (of2 g b (LE is oo n) _ oo w6 HC.out ho256 hle)
      clear hle
      go_wp2_with fail
      refine Calls.mono (show Calls Try.prog 23 _ w6 _ from HOF.out) ?_
      rintro e w7 ⟨A7, c7, ks7, rfl, -, hp7, hb7⟩
      have hk7 : ks7.length = 0 := by
        have h1 := hp7.length_eq
        rw [List.length_map, List.length_map, LE_held ho256 ho256, if_pos rfl] at h1; exact h1
      rw [hk7]
      have HC7 := Lib.hid (HC.out.call hb7)
      have HN7 := Lib.hid (HN.out.call hb7)
      have HB7 := Lib.hid (HB.out.trans (hb7.mono HB.out.size))
      clear hp7 hk7 hb7 HC HN HB HOF i1 c1
      go_wp2_with fail
      refine (klen_any g b _ _ _ HC7.out).mono ?_
      rintro e w8 ⟨rfl, rfl⟩
      rw [show ((LE is oo n).length : Int) = (n : Int) - (m : Int) by have := HLL.out; have := HKL.out; omega]
      go_wp2_with fail
      go_loopw [12, 13] (fun s12 iv wr => ∃ k : Nat, k ≤ n ∧ iv = .int .i64 k ∧ s12 = .int .u64 (sumA (LE is oo k)) ∧ Hid (LocksAt wr g b (LE is oo n) (sumA (LE is oo n)) ∧ Blk wr gn 59 (nsV is n) ∧ Below w.heap.size w wr)) (fun _ iv _ => n - (intOf iv).toNat)
      case atStart => exact ⟨0, by omega, rfl, rfl, Lib.hid ⟨HC7.out, HN7.out, HB7.out⟩⟩
      case round =>
        obtain ⟨k, hk, rfl, rfl, hI⟩ := hrel
        clear HC7 HN7 HB7
        have HC := Lib.hid hI.out.1; have HN := Lib.hid hI.out.2.1; have HB := Lib.hid hI.out.2.2
        clear hI
        by_cases hlt : k < n
        · obtain ⟨eb, eo, rfl, hbl, hce⟩ := byte_at HS.out hlt
          have HCE := Lib.hid hce
          have hf := fI_lt is k
          have HNG0 := Lib.hid (nsV_get is n (fI is k) hf)
          have HGET := Lib.hid (kget_any g b (LE is oo n) _ (pk k 0) wr HC.out (pk_ok k 0 (by omega) (by omega)))
          have HLS := Lib.hid (LE_succ is oo k ho256)
          have HLK := Lib.hid (LE_look (is := is) (o := oo) (m := n) (j := k) ho256 (by omega) hlt)
          have HBT := Lib.hid (built_idk (fI is k) hf)
          have HLH := Lib.hid (LE_held (is := is) (o := oo) (m := n) (v := fI is k) ho256 hf)
          have HEQ := Lib.hid (idk_eq (idx (fI is k)) (idx (fI is k)) (idx_len _) (idx_len _))
          have hbd := LE_bd is oo ho256 k (by omega)
          obtain ⟨f, hff⟩ : ∃ f, f = fI is k := ⟨_, rfl⟩
          rw [← hff] at hf HNG0 HLS HLK HBT HLH HEQ HCE
          have hix := fun w => ix256 gn f hf w
          obtain ⟨sk, hsk⟩ : ∃ q, q = sumA (LE is oo k) := ⟨_, rfl⟩
          rw [← hsk] at HLS hbd ⊢
          rw [HLK.out, ptA_pk k 0 (by omega)] at HGET
          clear hbl hce hff hsk HLK
          by_cases hfo : f = oo
          · rw [if_pos hfo] at HGET HLS
            subst hfo
            have HGE := Lib.hid (show Calls Try.prog 25 #[.pointer (some ⟨g, 0, none⟩), pkV k 0] wr fun e w' => e = .returned (.tuple #[.agg zidV.toArray, .agg (coinV noCoin).toArray, .bool false]) ∧ Below wr.heap.size wr w' from HGET.out)
            have HIL := Lib.hid zidV_len; have HI1 := Lib.hid (show ∀ u ∈ zidV, u.oneCell' = true from mapB_one _)
            have HKL2 := Lib.hid (coinV_length noCoin_ok); have HK1 := Lib.hid (coinV_one noCoin)
            clear HGET HLH HEQ HBT
            go_wp2_with fail
            refine Calls.mono (show Calls Try.prog 25 _ wr _ from HGE.out) ?_
            rintro e w2 ⟨rfl, hb2⟩
            have HC2 := Lib.hid (HC.out.call hb2)
            have HN2 := Lib.hid (HN.out.call hb2)
            have HB2 := Lib.hid (HB.out.trans (hb2.mono HB.out.size))
            clear hb2 HC HN HB HGE
            go_wp2_with (first | (with_reducible refine wpl_alloc (o := ⟨some 14, _, _, _, _, _⟩) rfl rfl zero_idk ?_))
            intro w3 hb3 hbw3 hsz3
            have HI3 := Lib.hid hb3
            have HC3 := Lib.hid (HC2.out.call hbw3)
            have HN3 := Lib.hid (HN2.out.call hbw3)
            have HB3 := Lib.hid (HB2.out.trans (hbw3.mono HB2.out.size))
            have HQ := Lib.hid (show g < w2.heap.size ∧ b < w2.heap.size ∧ gn < w2.heap.size ∧ w.heap.size ≤ w2.heap.size from ⟨HC2.out.ltg, HC2.out.ltb, HN2.out.lt, HB2.out.size⟩)
            have HS3 := Lib.hid hsz3
            clear hb3 hbw3 hsz3 HC2 HN2 HB2
            go_wp2_with (first | (with_reducible refine wpl_alloc (o := ⟨some 15, _, _, _, _, _⟩) rfl rfl zero_coin ?_))
            intro w4 hb4 hbw4 hsz4
            have HK4 := Lib.hid hb4
            have HI4 := Lib.hid (HI3.out.call hbw4)
            have HC4 := Lib.hid (HC3.out.call hbw4)
            have HN4 := Lib.hid (HN3.out.call hbw4)
            have HB4 := Lib.hid (HB3.out.trans (hbw4.mono HB3.out.size))
            clear hb4 hbw4 hsz4 HI3 HC3 HN3 HB3
            try rw [HS3.out] at HK4 ⊢
            obtain ⟨q2, hq2⟩ : ∃ q, q = w2.heap.size := ⟨_, rfl⟩
            rw [← hq2] at HK4 HI4 HQ ⊢
            clear hq2 HS3
            go_wp2_with (first | (with_reducible refine wpl_storeb (o := ⟨none, .store _ _ _, _, _, _, _⟩) rfl rfl row_idk HI4.out rfl rfl zidV_len HIL.out HI1.out ?_))
            intro w5 hb5 hg5 hs5
            have HI5 := Lib.hid hb5
            have HK5 := Lib.hid (HK4.out.grown hg5 (by simp))
            have HC5 := Lib.hid (HC4.out.grown hg5 (by have := HQ.out; simp; omega) (by have := HQ.out; simp; omega))
            have HN5 := Lib.hid (HN4.out.grown hg5 (by have := HQ.out; simp; omega))
            have HB5 := Lib.hid (HB4.out.grown hg5 HB4.out.size (fun q hq => by cases hq; exact HQ.out.2.2.2))
            clear hb5 hg5 hs5 HI4 HK4 HC4 HN4 HB4
            go_wp2_with (first | (with_reducible refine wpl_storeb (o := ⟨none, .store _ _ _, _, _, _, _⟩) rfl rfl row_coin HK5.out rfl rfl (coinV_length noCoin_ok) HKL2.out HK1.out ?_))
            intro w6 hb6 hg6 hs6
            have HK6 := Lib.hid hb6
            have HI6 := Lib.hid (HI5.out.grown hg6 (by simp))
            have HC := Lib.hid (HC5.out.grown hg6 (by have := HQ.out; simp; omega) (by have := HQ.out; simp; omega))
            have HN := Lib.hid (HN5.out.grown hg6 (by have := HQ.out; simp; omega))
            have HB := Lib.hid (HB5.out.grown hg6 HB5.out.size (fun q hq => by cases hq; have := HQ.out.2.2.2; omega))
            clear hb6 hg6 hs6 HI5 HK5 HC5 HN5 HB5
            go_wp2_with fail
            try go_wp2_with fail
            repeat' (first | (with_reducible refine wp_flow (id := 27) [0,0,0,6,14,0,62,127,255,511,1023,2047,2047,2047,14335,30719,63487,131071,262143,524287,1048575,524287,2621439,6815743,16777215,33554431,67108863,134217727] [0,0,0,0,0,0,0,0,0,0,0,0,0,0,0,0,0,0,0,0,0,0,0,0,0,0,0,0] (fun i => match i with  | _ => spV undef) (by kernel_rfl) (by kernel_rfl) ?_) | go_values | go_skip | go_guarded | go_step | go_upon | go_back)
            intro w_ hd_
            have hb_ := hd_.grow
            have HB_ := Lib.hid (HB.out.grow' hb_)
            clear HB
            have HB := HB_
            clear HB_
            have HC_ := Lib.hid (HC.out.grow hb_)
            clear HC
            have HC := HC_
            clear HC_
            have HN_ := Lib.hid (HN.out.grow hb_)
            clear HN
            have HN := HN_
            clear HN_
            clear hb_ hd_
            show wpL _ _ _ _ _ _ _ [0,1,2,3,4,5,6,7,8,9,10,11,12,13,14,15,16,17,18,19,20,21,22,23,24,25,26,27] _ _
            have HEC := Lib.hid (bcell HB.out HCE.out)
            repeat (first | (refine fl_calm rfl (by decide) (by first | exact wanted_none rfl | (go_simp; done) | fail) (fun w_ _ _ => by first | (go_simp; rfl) | (go_simp; done) | rfl) (fun K hK => ?_); go_simp; refine hK _ ?_; clear hK K) | (refine fl_skip rfl (by first | (go_simp; done) | fail) (fun K hK => ?_); go_simp; refine hK _ ?_; clear hK K) | (refine fl_load rfl (by decide) (by first | exact wanted_none rfl | (go_simp; done) | fail) rfl (by first | rfl | (go_simp; rfl)) (by kernel_rfl) (by first | exact HEC.out) (fun K hK => ?_); go_simp; refine hK _ ?_; clear hK K))
            refine fl_skip rfl (by first | (go_simp; done) | rfl) (fun K hK => ?_)
            go_simp
            refine hK _ ?_
            clear hK K
            refine fl_skip rfl (by first | (go_simp; done) | rfl) (fun K hK => ?_)
            go_simp
            refine hK _ ?_
            clear hK K
            refine fl_skip rfl (by first | (go_simp; done) | rfl) (fun K hK => ?_)
            go_simp
            refine hK _ ?_
            clear hK K
            refine fl_skip rfl (by first | (go_simp; done) | rfl) (fun K hK => ?_)
            go_simp
            refine hK _ ?_
            clear hK K
            refine fl_skip rfl (by first | (go_simp; done) | rfl) (fun K hK => ?_)
            go_simp
            refine hK _ ?_
            clear hK K
            refine fl_skip rfl (by first | (go_simp; done) | rfl) (fun K hK => ?_)
            go_simp
            refine hK _ ?_
            clear hK K
            repeat (first | (refine fl_calm rfl (by decide) (by first | exact wanted_none rfl | (go_simp; done) | fail) (fun w_ _ _ => by first | (go_simp; rfl) | (go_simp; done) | rfl) (fun K hK => ?_); go_simp; refine hK _ ?_; clear hK K) | (refine fl_skip rfl (by first | (go_simp; done) | fail) (fun K hK => ?_); go_simp; refine hK _ ?_; clear hK K) | (refine fl_load rfl (by decide) (by first | exact wanted_none rfl | (go_simp; done) | fail) rfl (by first | rfl | (go_simp; rfl)) (by kernel_rfl) (by first | exact HEC.out) (fun K hK => ?_); go_simp; refine hK _ ?_; clear hK K))
            refine fl_done ?_
            intro w2_ hg_ hL_
            replace HB := Lib.hid (HB.out.grow' hg_)
            replace HC := Lib.hid (HC.out.grow hg_)
            replace HN := Lib.hid (HN.out.grow hg_)
            clear hg_ hL_
            try clear w_
            rename World => w_
            have c2 := bcell HB.out HCE.out
            go_wp2_with fail
            go_roundw
            case rel => exact ⟨k + 1, by omega, by go_num, by rw [HLS.out, Int.add_zero], Lib.hid ⟨HC.out, HN.out, HB.out⟩⟩
            case measure => simp [intOf]; omega
          · rw [if_neg hfo] at HGET HLS
            rw [if_neg hfo] at HLH
            have hb1 : ((f : Int) != (oo : Int)) = true := bne_iff_ne.2 (by omega)
            have HGE := Lib.hid (show Calls Try.prog 25 #[.pointer (some ⟨g, 0, none⟩), pkV k 0] wr fun e w' => e = .returned (.tuple #[.agg ((idx f).map B).toArray, .agg (coinV (cn ((k : Int) + 1))).toArray, .bool true]) ∧ Below wr.heap.size wr w' from HGET.out)
            have HIL := Lib.hid (show ((idx f).map B).length = 32 by rw [List.length_map]; exact idx_len f); have HI1 := Lib.hid (mapB_one (idx f))
            have HKL2 := Lib.hid (coinV_length (cn_ok ((k : Int) + 1) (by omega) (by omega))); have HK1 := Lib.hid (coinV_one (cn ((k : Int) + 1)))
            have HKA := Lib.hid (show (coinV (cn ((k : Int) + 1)))[32]? = some (.int .u64 ((k : Int) + 1)) from rfl)
            obtain ⟨q, hq⟩ : ∃ q, q = cntO is n f := ⟨_, rfl⟩
            rw [← hq] at HLH HNG0
            have HOFQ := Lib.hid (show ∀ w', LocksAt w' g b (LE is oo n) (sumA (LE is oo n)) → Calls Try.prog 23 #[.pointer (some ⟨g, 0, none⟩), idxV f] w' fun e w'' => ∃ A c, e = .returned (.slice A q c) ∧ True ∧ Below w'.heap.size w' w'' from fun w' h => (of2 g b (LE is oo n) _ f w' h hf HLE.out).mono fun e w'' ⟨A, c, ks, he, _, hp, hb⟩ => ⟨A, c, by
              have h1 := hp.length_eq
              rw [List.length_map, List.length_map, HLH.out] at h1
              rw [he, h1], trivial, hb⟩)
            have heq := HEQ.out
            simp only [decide_true] at heq
            have HEQ2 := Lib.hid heq
            obtain ⟨js, hjs⟩ : ∃ q, q = (idx f).map B := ⟨_, rfl⟩
            obtain ⟨cs, hcs⟩ : ∃ q, q = coinV (cn ((k : Int) + 1)) := ⟨_, rfl⟩
            rw [← hjs] at HGE HIL HI1 HBT HEQ2
            rw [← hcs] at HGE HKL2 HK1 HKA
            have v2 : IntKind.u64.wrap ((k : Int) + 1) = (k : Int) + 1 := u64_in _ ⟨by omega, by omega⟩
            have v3 : IntKind.i64.wrap ((k : Int) + 1) = (k : Int) + 1 := IntWalk.i64_in _ (by omega)
            have v4 : IntKind.u64.wrap (sk + ((k : Int) + 1)) = sk + ((k : Int) + 1) := u64_in _ ⟨by omega, by omega⟩
            clear HGET hq hjs hcs HEQ heq
            go_wp2_with fail
            refine Calls.mono (show Calls Try.prog 25 _ wr _ from HGE.out) ?_
            rintro e w2 ⟨rfl, hb2⟩
            have HC2 := Lib.hid (HC.out.call hb2)
            have HN2 := Lib.hid (HN.out.call hb2)
            have HB2 := Lib.hid (HB.out.trans (hb2.mono HB.out.size))
            clear hb2 HC HN HB HGE
            go_wp2_with (first | (with_reducible refine wpl_alloc (o := ⟨some 14, _, _, _, _, _⟩) rfl rfl zero_idk ?_))
            intro w3 hb3 hbw3 hsz3
            have HI3 := Lib.hid hb3
            have HC3 := Lib.hid (HC2.out.call hbw3)
            have HN3 := Lib.hid (HN2.out.call hbw3)
            have HB3 := Lib.hid (HB2.out.trans (hbw3.mono HB2.out.size))
            have HQ := Lib.hid (show g < w2.heap.size ∧ b < w2.heap.size ∧ gn < w2.heap.size ∧ w.heap.size ≤ w2.heap.size from ⟨HC2.out.ltg, HC2.out.ltb, HN2.out.lt, HB2.out.size⟩)
            have HS3 := Lib.hid hsz3
            clear hb3 hbw3 hsz3 HC2 HN2 HB2
            go_wp2_with (first | (with_reducible refine wpl_alloc (o := ⟨some 15, _, _, _, _, _⟩) rfl rfl zero_coin ?_))
            intro w4 hb4 hbw4 hsz4
            have HK4 := Lib.hid hb4
            have HI4 := Lib.hid (HI3.out.call hbw4)
            have HC4 := Lib.hid (HC3.out.call hbw4)
            have HN4 := Lib.hid (HN3.out.call hbw4)
            have HB4 := Lib.hid (HB3.out.trans (hbw4.mono HB3.out.size))
            clear hb4 hbw4 hsz4 HI3 HC3 HN3 HB3
            try rw [HS3.out] at HK4 ⊢
            obtain ⟨q2, hq2⟩ : ∃ q, q = w2.heap.size := ⟨_, rfl⟩
            rw [← hq2] at HK4 HI4 HQ ⊢
            clear hq2 HS3
            go_wp2_with (first | (with_reducible refine wpl_storeb (o := ⟨none, .store _ _ _, _, _, _, _⟩) rfl rfl row_idk HI4.out rfl rfl zidV_len HIL.out HI1.out ?_))
            intro w5 hb5 hg5 hs5
            have HI5 := Lib.hid hb5
            have HK5 := Lib.hid (HK4.out.grown hg5 (by simp))
            have HC5 := Lib.hid (HC4.out.grown hg5 (by have := HQ.out; simp; omega) (by have := HQ.out; simp; omega))
            have HN5 := Lib.hid (HN4.out.grown hg5 (by have := HQ.out; simp; omega))
            have HB5 := Lib.hid (HB4.out.grown hg5 HB4.out.size (fun q hq => by cases hq; exact HQ.out.2.2.2))
            clear hb5 hg5 hs5 HI4 HK4 HC4 HN4 HB4
            go_wp2_with (first | (with_reducible refine wpl_storeb (o := ⟨none, .store _ _ _, _, _, _, _⟩) rfl rfl row_coin HK5.out rfl rfl (coinV_length noCoin_ok) HKL2.out HK1.out ?_))
            intro w6 hb6 hg6 hs6
            have HK6 := Lib.hid hb6
            have HI6 := Lib.hid (HI5.out.grown hg6 (by simp))
            have HC := Lib.hid (HC5.out.grown hg6 (by have := HQ.out; simp; omega) (by have := HQ.out; simp; omega))
            have HN := Lib.hid (HN5.out.grown hg6 (by have := HQ.out; simp; omega))
            have HB := Lib.hid (HB5.out.grown hg6 HB5.out.size (fun q hq => by cases hq; have := HQ.out.2.2.2; omega))
            clear hb6 hg6 hs6 HI5 HK5 HC5 HN5 HB5
            go_wp2_with fail
            try go_wp2_with fail
            repeat' (first | (with_reducible refine wp_flow (id := 27) [0,0,0,6,14,0,62,127,255,511,1023,2047,2047,2047,14335,30719,63487,131071,262143,524287,1048575,524287,2621439,6815743,16777215,33554431,67108863,134217727] [0,0,0,0,0,0,0,0,0,0,0,0,0,0,0,0,0,0,0,0,0,0,0,0,0,0,0,0] (fun i => match i with  | _ => spV undef) (by kernel_rfl) (by kernel_rfl) ?_) | go_values | go_skip | go_guarded | go_step | go_upon | go_back)
            intro w_ hd_
            have hb_ := hd_.grow
            have HB_ := Lib.hid (HB.out.grow' hb_)
            clear HB
            have HB := HB_
            clear HB_
            have HC_ := Lib.hid (HC.out.grow hb_)
            clear HC
            have HC := HC_
            clear HC_
            have HN_ := Lib.hid (HN.out.grow hb_)
            clear HN
            have HN := HN_
            clear HN_
            have HI6_ := Lib.hid (HI6.out.grow hb_)
            clear HI6
            have HI6 := HI6_
            clear HI6_
            have HK6_ := Lib.hid (HK6.out.grow hb_)
            clear HK6
            have HK6 := HK6_
            clear HK6_
            clear hb_ hd_
            show wpL _ _ _ _ _ _ _ [0,1,2,3,4,5,6,7,8,9,10,11,12,13,14,15,16,17,18,19,20,21,22,23,24,25,26,27] _ _
            have HEC := Lib.hid (bcell HB.out HCE.out)
            have HKC := Lib.hid (HK6.out.at_ HKA.out)
            repeat (first | (refine fl_calm rfl (by decide) (by first | exact wanted_none rfl | (go_simp; done) | fail) (fun w_ _ _ => by first | (go_simp; rfl) | (go_simp; done) | rfl) (fun K hK => ?_); go_simp; refine hK _ ?_; clear hK K) | (refine fl_skip rfl (by first | (go_simp; done) | fail) (fun K hK => ?_); go_simp; refine hK _ ?_; clear hK K) | (refine fl_load rfl (by decide) (by first | exact wanted_none rfl | (go_simp; done) | fail) rfl (by first | rfl | (go_simp; rfl)) (by kernel_rfl) (by first | exact HEC.out) (fun K hK => ?_); go_simp; refine hK _ ?_; clear hK K))
            refine fl_loadb rfl (by decide) (by first | exact wanted_none rfl | (go_simp; done) | fail) rfl row_idk HI6.out (by first | rfl | (go_simp; done) | rfl) HIL.out (fun K hK => ?_)
            go_simp
            refine hK _ ?_
            clear hK K
            refine fl_calm rfl (by decide) (by first | exact wanted_none rfl | (go_simp; done) | fail) (fun w_ _ _ => by first | (go_simp; rfl) | (go_simp; done) | rfl) (fun K hK => ?_)
            go_simp
            refine hK _ ?_
            clear hK K
            refine fl_calm rfl (by decide) (by first | exact wanted_none rfl | (go_simp; done) | fail) (fun w_ _ _ => by first | (go_simp; rfl) | (go_simp; done) | rfl) (fun K hK => ?_)
            go_simp
            refine hK _ ?_
            clear hK K
            refine fl_calm rfl (by decide) (by first | exact wanted_none rfl | (go_simp; done) | fail) (fun w_ _ _ => by first | (go_simp; rfl) | (go_simp; done) | rfl) (fun K hK => ?_)
            go_simp
            refine hK _ ?_
            clear hK K
            refine fl_load rfl (by decide) (by first | exact wanted_none rfl | (go_simp; done) | fail) rfl (by first | rfl | (go_simp; rfl)) (by kernel_rfl) (by exact HEC.out) (fun K hK => ?_)
            go_simp
            refine hK _ ?_
            clear hK K
            refine fl_calm rfl (by decide) (by first | exact wanted_none rfl | (go_simp; done) | fail) (fun w_ _ _ => exec_build rfl HBT.out w_) (fun K hK => ?_)
            go_simp
            refine hK _ ?_
            clear hK K
            refine fl_calm rfl (by decide) (by first | exact wanted_none rfl | (go_simp; done) | fail) (fun w_ _ _ => by have c1 := HEQ2.out w_; first | (go_simp; rfl) | (go_simp; done) | rfl) (fun K hK => ?_)
            go_simp
            refine hK _ ?_
            clear hK K
            repeat (first | (refine fl_calm rfl (by decide) (by first | exact wanted_none rfl | (go_simp; done) | fail) (fun w_ _ _ => by first | (go_simp; rfl) | (go_simp; done) | rfl) (fun K hK => ?_); go_simp; refine hK _ ?_; clear hK K) | (refine fl_skip rfl (by first | (go_simp; done) | fail) (fun K hK => ?_); go_simp; refine hK _ ?_; clear hK K) | (refine fl_load rfl (by decide) (by first | exact wanted_none rfl | (go_simp; done) | fail) rfl (by first | rfl | (go_simp; rfl)) (by kernel_rfl) (by first | exact HKC.out) (fun K hK => ?_); go_simp; refine hK _ ?_; clear hK K))
            refine fl_done ?_
            intro w2_ hg_ hL_
            replace HB := Lib.hid (HB.out.grow' hg_)
            replace HC := Lib.hid (HC.out.grow hg_)
            replace HN := Lib.hid (HN.out.grow hg_)
            clear hg_ hL_
            try clear w_
            rename World => w_
            have c2 := bcell HB.out HCE.out
            go_wp2_with fail
            try go_wp2_with fail
            repeat' (first | (with_reducible refine wp_flow (id := 31) [0,0,0,6,14,30,63,127,0,0,768,1792,3840,7936,16383] [0,0,0,0,0,0,3,0,0,0,0,0,0,0,0] (fun i => match i with | 6 => spS q (fun _ _ _ => True) (fun _ _ _ _ _ _ => trivial) | _ => spV undef) (by kernel_rfl) (by kernel_rfl) ?_) | go_values | go_skip | go_guarded | go_step | go_upon | go_back)
            intro w_ hd_
            have hb_ := hd_.grow
            have HB_ := Lib.hid (HB.out.grow' hb_)
            clear HB
            have HB := HB_
            clear HB_
            have HC_ := Lib.hid (HC.out.grow hb_)
            clear HC
            have HC := HC_
            clear HC_
            have HN_ := Lib.hid (HN.out.grow hb_)
            clear HN
            have HN := HN_
            clear HN_
            clear hb_ hd_
            show wpL _ _ _ _ _ _ _ [0,1,2,3,4,5,6,7,8,9,10,11,12,13,14] _ _
            have HEC := Lib.hid (bcell HB.out HCE.out)
            have HNF := Lib.hid (HN.out.at_ HNG0.out)
            repeat (first | (refine fl_calm rfl (by decide) (by first | exact wanted_none rfl | (go_simp; done) | fail) (fun w_ _ _ => by first | (go_simp; rfl) | (go_simp; done) | rfl) (fun K hK => ?_); go_simp; refine hK _ ?_; clear hK K) | (refine fl_skip rfl (by first | (go_simp; done) | fail) (fun K hK => ?_); go_simp; refine hK _ ?_; clear hK K) | (refine fl_load rfl (by decide) (by first | exact wanted_none rfl | (go_simp; done) | fail) rfl (by first | rfl | (go_simp; rfl)) (by kernel_rfl) (by first | exact HEC.out) (fun K hK => ?_); go_simp; refine hK _ ?_; clear hK K))
            refine fl_calls rfl (by kernel_rfl) rfl (by first | exact wanted_none rfl | (go_simp; done) | fail) (fun w_ => by first | (go_simp; exact ⟨rfl, rfl⟩) | (go_simp; rfl) | (go_simp; exact ⟨⟨rfl, rfl, rfl⟩, rfl⟩)) (fun w2_ hg_ hL_ => ?_) (fun A9 c9 K hK => ?_)
            · skip
              replace HC := Lib.hid (HC.out.grow hg_)
              exact (HOFQ.out w2_ HC.out)
            go_simp
            refine hK _ ?_
            clear hK K
            repeat (first | (refine fl_calm rfl (by decide) (by first | exact wanted_none rfl | (go_simp; done) | fail) (fun w_ _ _ => by first | (go_simp; rfl) | (go_simp; done) | rfl) (fun K hK => ?_); go_simp; refine hK _ ?_; clear hK K) | (refine fl_skip rfl (by first | (go_simp; done) | fail) (fun K hK => ?_); go_simp; refine hK _ ?_; clear hK K) | (refine fl_load rfl (by decide) (by first | exact wanted_none rfl | (go_simp; done) | fail) rfl (by first | rfl | (go_simp; rfl)) (by kernel_rfl) (by first | exact HEC.out | exact HNF.out) (fun K hK => ?_); go_simp; refine hK _ ?_; clear hK K))
            refine fl_done ?_
            intro w2_ hg_ hL_
            replace HB := Lib.hid (HB.out.grow' hg_)
            replace HC := Lib.hid (HC.out.grow hg_)
            replace HN := Lib.hid (HN.out.grow hg_)
            clear hg_ hL_
            try clear w_
            rename World => w_
            go_wp2_with fail
            go_roundw
            case rel => exact ⟨k + 1, by omega, by go_num, by rw [HLS.out], Lib.hid ⟨HC.out, HN.out, HB.out⟩⟩
            case measure => simp [intOf]; omega
        · obtain rfl : k = n := by omega
          go_wp2_with fail
          refine (ksum_any g b _ _ _ HC.out).mono ?_
          rintro e w9 ⟨rfl, rfl⟩
          go_wp2_with fail
          refine (awake21_any _).mono ?_
          rintro e w9 ⟨rfl, hb9⟩
          have HB9 := Lib.hid (HB.out.trans (hb9.mono HB.out.size))
          clear hb9
          go_wp2_with fail
          go_ret
          exact ⟨rfl, HB9.out⟩
end Go.Proofs.Ytolbbhbfbpiljaa

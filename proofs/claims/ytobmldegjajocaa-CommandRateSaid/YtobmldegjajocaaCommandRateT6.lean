/- Contracts of entry.Right and header.Right. -/
import Derived.Test.YtobmldegjajocaaCommandRateT1
import Derived.Test.YtobmldegjajocaaRows
import Derived.Test.YtobmldegjajocaaCommandRateT2
import Derived.Test.YtobmldegjajocaaCommandRateT5
import Derived.Test.YtobmldegjajocaaCommandRateT4
import Derived.Laws.IdiomCopy
import Derived.Lib.Strings
import Derived.Lib.BitFns
set_option linter.unusedSimpArgs false
/- Contracts of entry.Right and header.Right. -/
namespace Go.Proofs.Ytobmldegjajocaa
open Go.RowKit
set_option linter.unusedVariables false
structure Ent where
  kind : Int
  shard : Int
  tx : List UInt8
  amount : Int
  why : Int
  epoch : Int
structure Hdr where
  shard : Int
  height : Int
  epoch : Int
  prev : List UInt8
  root : List UInt8
def I64 (n : Int) : Prop := -9223372036854775808 ≤ n ∧ n ≤ 9223372036854775807
def U64 (n : Int) : Prop := 0 ≤ n ∧ n ≤ 18446744073709551615
theorem I64.wf {n : Int} (h : I64 n) : (Lit.int .i64 n).wf = true := by unfold I64 at h; simp [Lit.wf, IntKind.min, IntKind.max, IntKind.signed, IntKind.bits]; omega
theorem U64.wf {n : Int} (h : U64 n) : (Lit.int .u64 n).wf = true := by unfold U64 at h; simp [Lit.wf, IntKind.min, IntKind.max, IntKind.signed, IntKind.bits]; omega
def Ent.ok (e : Ent) : Prop := I64 e.kind ∧ I64 e.shard ∧ e.tx.length = 32 ∧ U64 e.amount ∧ I64 e.why ∧ I64 e.epoch
def Hdr.ok (h : Hdr) : Prop := I64 h.shard ∧ I64 h.height ∧ I64 h.epoch ∧ h.prev.length = 32 ∧ h.root.length = 32
def entV (e : Ent) : List Value := .int .i64 e.kind :: .int .i64 e.shard :: (e.tx.map B ++ [.int .u64 e.amount, .int .i64 e.why, .int .i64 e.epoch])
def hdrV (h : Hdr) : List Value := .int .i64 h.shard :: .int .i64 h.height :: .int .i64 h.epoch :: (h.prev.map B ++ h.root.map B)
theorem entV_length {e : Ent} (h : e.ok) : (entV e).length = 37 := by simp [entV, h.2.2.1]
theorem hdrV_length {e : Hdr} (h : e.ok) : (hdrV e).length = 67 := by simp [hdrV, h.2.2.2.1, h.2.2.2.2]
def noEnt : Ent := ⟨0, 0, List.replicate 32 0, 0, 0, 0⟩
def noHdr : Hdr := ⟨0, 0, 0, List.replicate 32 0, List.replicate 32 0⟩
theorem noEnt_ok : noEnt.ok := by simp [noEnt, Ent.ok, I64, U64]
theorem noHdr_ok : noHdr.ok := by simp [noHdr, Hdr.ok, I64]
theorem cells_entry : Try.prog.cellsOf 54 = 37 := by kernel_rfl
theorem cells_header : Try.prog.cellsOf 57 = 67 := by kernel_rfl
theorem laid_out' : laidOutB Try.prog = true := by kernel_rfl
theorem key_entry : WideMaps.KeyLaw Try.prog 54 := deep_law_laid laid_out' (m := 3) (by omega) (of_decide_eq_true (by kernel_rfl)) (by kernel_rfl) (by kernel_rfl)
theorem key_header : WideMaps.KeyLaw Try.prog 57 := deep_law_laid laid_out' (m := 3) (by omega) (of_decide_eq_true (by kernel_rfl)) (by kernel_rfl) (by kernel_rfl)
theorem row_entry : RowT Try.prog 54 37 := ⟨_, Try.underlying54, by kernel_rfl, by kernel_rfl⟩
theorem row_header : RowT Try.prog 57 67 := ⟨_, Try.underlying57, by kernel_rfl, by kernel_rfl⟩
theorem types_3 : ∃ n, Try.prog.types.size + 1 = n + 4 := ⟨Try.prog.types.size - 3, by kernel_rfl⟩
theorem lits_id (d : Nat) (ds : List UInt8) (h : ds.length = 32) : ∃ l, Try.prog.keyLits (d + 2) 29 (ds.map B) = some l :=
  kl_bytes Try.underlying29 Try.underlying5 cells_u8 cells_id d ds h
theorem lits_ent (d : Nat) (e : Ent) (h : e.ok) : ∃ l, Try.prog.keyLits (d + 3) 54 (entV e) = some l := by
  refine kl_struct Try.underlying54 _ _ (by rw [entV_length h, cells_entry]) (by kernel_rfl) ?_
  obtain ⟨h1, h2, h3, h4, h5, h6⟩ := h
  have e0 : (e.tx.map B).length = 32 := by rw [List.length_map, h3]
  intro f hf
  simp only [List.mem_cons, List.not_mem_nil, or_false] at hf
  rcases hf with rfl | rfl | rfl | rfl | rfl | rfl
  · simp only [cells_int]; exact kl_int Try.underlying3 _ _ h1.wf
  · simp only [cells_int]; exact kl_int Try.underlying3 _ _ h2.wf
  · have : List.take 32 (List.drop 2 (entV e)) = e.tx.map B := by unfold entV; rw [List.drop_succ_cons, List.drop_succ_cons, List.drop_zero, List.take_append_of_le_length (by omega), List.take_of_length_le (by omega)]
    simp only [cells_id, this]; exact lits_id _ _ h3
  · have : List.take 1 (List.drop 34 (entV e)) = [.int .u64 e.amount] := by
      unfold entV; rw [List.drop_succ_cons, List.drop_succ_cons, List.drop_append_of_le_length (by omega), List.drop_of_length_le (by omega)]; rfl
    simp only [cells_u64, this]; exact kl_int Try.underlying24 _ _ h4.wf
  · have : List.take 1 (List.drop 35 (entV e)) = [.int .i64 e.why] := by
      unfold entV; rw [List.drop_succ_cons, List.drop_succ_cons, List.drop_append, e0, List.drop_of_length_le (by omega)]; rfl
    simp only [cells_int, this]; exact kl_int Try.underlying3 _ _ h5.wf
  · have : List.take 1 (List.drop 36 (entV e)) = [.int .i64 e.epoch] := by
      unfold entV; rw [List.drop_succ_cons, List.drop_succ_cons, List.drop_append, e0, List.drop_of_length_le (by omega)]; rfl
    simp only [cells_int, this]; exact kl_int Try.underlying3 _ _ h6.wf
theorem lits_hdr (d : Nat) (e : Hdr) (h : e.ok) : ∃ l, Try.prog.keyLits (d + 3) 57 (hdrV e) = some l := by
  refine kl_struct Try.underlying57 _ _ (by rw [hdrV_length h, cells_header]) (by kernel_rfl) ?_
  obtain ⟨h1, h2, h3, h4, h5⟩ := h
  have e0 : (e.prev.map B).length = 32 := by rw [List.length_map, h4]
  have e1 : (e.root.map B).length = 32 := by rw [List.length_map, h5]
  intro f hf
  simp only [List.mem_cons, List.not_mem_nil, or_false] at hf
  rcases hf with rfl | rfl | rfl | rfl | rfl
  · simp only [cells_int]; exact kl_int Try.underlying3 _ _ h1.wf
  · simp only [cells_int]; exact kl_int Try.underlying3 _ _ h2.wf
  · simp only [cells_int]; exact kl_int Try.underlying3 _ _ h3.wf
  · have : List.take 32 (List.drop 3 (hdrV e)) = e.prev.map B := by unfold hdrV; rw [List.drop_succ_cons, List.drop_succ_cons, List.drop_succ_cons, List.drop_zero, List.take_append_of_le_length (by omega), List.take_of_length_le (by omega)]
    simp only [cells_id, this]; exact lits_id _ _ h4
  · have : List.take 32 (List.drop 35 (hdrV e)) = e.root.map B := by
      unfold hdrV; rw [List.drop_succ_cons, List.drop_succ_cons, List.drop_succ_cons, List.drop_append_of_le_length (by omega), List.drop_of_length_le (by omega), List.nil_append, List.take_of_length_le (by omega)]
    simp only [cells_id, this]; exact lits_id _ _ h5
theorem ewithin_any (n lo hi : Int) (w : World) : Calls Try.prog 114 #[.int .i64 n, .int .i64 lo, .int .i64 hi] w fun e w' => e = .returned (.bool (decide (lo ≤ n) && decide (n ≤ hi))) ∧ w = w' := by
  by_cases h : lo ≤ n
  · rw [show decide (lo ≤ n) = true by simpa using h, Bool.true_and]
    go_enter Try.func114, Try.ntmps114
    go_wp2
    go_ret
    exact ⟨rfl, rfl⟩
  · rw [show decide (lo ≤ n) = false by simpa using h, Bool.false_and]
    have h2 : decide (lo ≤ n) = false := by simpa using h
    go_enter Try.func114, Try.ntmps114
    go_wp2
    go_ret
    exact ⟨rfl, rfl⟩
theorem hwithin_any (n lo hi : Int) (w : World) : Calls Try.prog 115 #[.int .i64 n, .int .i64 lo, .int .i64 hi] w fun e w' => e = .returned (.bool (decide (lo ≤ n) && decide (n ≤ hi))) ∧ w = w' := by
  by_cases h : lo ≤ n
  · rw [show decide (lo ≤ n) = true by simpa using h, Bool.true_and]
    go_enter Try.func115, Try.ntmps115
    go_wp2
    go_ret
    exact ⟨rfl, rfl⟩
  · rw [show decide (lo ≤ n) = false by simpa using h, Bool.false_and]
    have h2 : decide (lo ≤ n) = false := by simpa using h
    go_enter Try.func115, Try.ntmps115
    go_wp2
    go_ret
    exact ⟨rfl, rfl⟩
def inB (n lo hi : Int) : Bool := decide (lo ≤ n) && decide (n ≤ hi)
def rightE (e : Ent) : Bool := inB e.kind 1 3 && inB e.shard 0 63 && decide (e.amount ≤ 4611686018427387904) && inB e.why 0 63 && inB e.epoch 0 1099511627776
def rightH (h : Hdr) : Bool := inB h.shard 0 63 && inB h.height 1 1099511627776 && inB h.epoch 0 1099511627776
def zeroEnt : Array Value := #[.int .i64 0, .int .i64 0, .int .u8 0, .int .u8 0, .int .u8 0, .int .u8 0, .int .u8 0, .int .u8 0, .int .u8 0, .int .u8 0, .int .u8 0, .int .u8 0, .int .u8 0, .int .u8 0, .int .u8 0, .int .u8 0, .int .u8 0, .int .u8 0, .int .u8 0, .int .u8 0, .int .u8 0, .int .u8 0, .int .u8 0, .int .u8 0, .int .u8 0, .int .u8 0, .int .u8 0, .int .u8 0, .int .u8 0, .int .u8 0, .int .u8 0, .int .u8 0, .int .u8 0, .int .u8 0, .int .u64 0, .int .i64 0, .int .i64 0]
def zeroHdr : Array Value := #[.int .i64 0, .int .i64 0, .int .i64 0, .int .u8 0, .int .u8 0, .int .u8 0, .int .u8 0, .int .u8 0, .int .u8 0, .int .u8 0, .int .u8 0, .int .u8 0, .int .u8 0, .int .u8 0, .int .u8 0, .int .u8 0, .int .u8 0, .int .u8 0, .int .u8 0, .int .u8 0, .int .u8 0, .int .u8 0, .int .u8 0, .int .u8 0, .int .u8 0, .int .u8 0, .int .u8 0, .int .u8 0, .int .u8 0, .int .u8 0, .int .u8 0, .int .u8 0, .int .u8 0, .int .u8 0, .int .u8 0, .int .u8 0, .int .u8 0, .int .u8 0, .int .u8 0, .int .u8 0, .int .u8 0, .int .u8 0, .int .u8 0, .int .u8 0, .int .u8 0, .int .u8 0, .int .u8 0, .int .u8 0, .int .u8 0, .int .u8 0, .int .u8 0, .int .u8 0, .int .u8 0, .int .u8 0, .int .u8 0, .int .u8 0, .int .u8 0, .int .u8 0, .int .u8 0, .int .u8 0, .int .u8 0, .int .u8 0, .int .u8 0, .int .u8 0, .int .u8 0, .int .u8 0, .int .u8 0]
theorem zeroEnt_eq : (entV noEnt).toArray = zeroEnt := rfl
theorem zeroHdr_eq : (hdrV noHdr).toArray = zeroHdr := rfl
theorem ent_at {e : Ent} (h : e.ok) : (entV e)[0]? = some (.int .i64 e.kind) ∧ (entV e)[1]? = some (.int .i64 e.shard) ∧ (entV e)[34]? = some (.int .u64 e.amount) ∧ (entV e)[35]? = some (.int .i64 e.why) ∧ (entV e)[36]? = some (.int .i64 e.epoch) := by
  have e0 : (e.tx.map B).length = 32 := by rw [List.length_map, h.2.2.1]
  refine ⟨rfl, rfl, ?_, ?_, ?_⟩
  all_goals
    unfold entV
    rw [List.getElem?_cons_succ, List.getElem?_cons_succ, List.getElem?_append_right (by omega), e0]
    rfl
set_option maxRecDepth 100000 in
set_option maxHeartbeats 1000000 in
theorem eright_any (e : Ent) (w : World) (h : e.ok) : Calls Try.prog 100 #[.agg (entV e).toArray] w fun en w' => en = .returned (.bool (rightE e)) ∧ Below w.heap.size w w' := by
  obtain ⟨n4, hn4⟩ := types_3
  obtain ⟨r, hr, hq⟩ := eql_deep key_entry (m := 3) (by omega) (by kernel_rfl) (by kernel_rfl) (by kernel_rfl) (entV e) (entV noEnt) (by rw [entV_length h, cells_entry]) (by rw [entV_length noEnt_ok, cells_entry]) (by rw [hn4]; exact lits_ent (n4 + 1) e h) (by rw [hn4]; exact lits_ent (n4 + 1) noEnt noEnt_ok)
  rw [zeroEnt_eq] at hq
  unfold zeroEnt at hq
  have hz : r = true → rightE e = false := by
    intro h1
    have h2 := hr.1 h1
    have h3 : e.kind = 0 := by
      have := congrArg List.head? h2
      simpa [entV, noEnt] using this
    unfold rightE inB
    rw [h3]; rfl
  obtain ⟨a1, a2, a3, a4, a5⟩ := ent_at h
  have HL := Lib.hid (entV_length h)
  obtain ⟨xs, hxs⟩ : ∃ xs, xs = entV e := ⟨_, rfl⟩
  rw [← hxs] at hq a1 a2 a3 a4 a5 HL ⊢
  have HZ := Lib.hid hz
  have A1 := Lib.hid a1; have A2 := Lib.hid a2; have A3 := Lib.hid a3; have A4 := Lib.hid a4; have A5 := Lib.hid a5
  obtain ⟨res, hres⟩ : ∃ res, res = rightE e := ⟨_, rfl⟩
  rw [← hres]
  have HRES := Lib.hid hres
  obtain ⟨g, hg⟩ : ∃ g, g = w.heap.size := ⟨_, rfl⟩
  have HG := Lib.hid hg
  clear hz a1 a2 a3 a4 a5 hr hxs hres hg h hn4
  go_enter Try.func100, Try.ntmps100
  go_wp2_with (first | (with_reducible refine wpl_box (o := ⟨some 1, _, _, _, _, _⟩) rfl rfl rfl ?_))
  intro w1 hb1 hbw1 hsz1
  rw [← HG.out] at hb1 hbw1 hsz1 ⊢
  have H1 := Lib.hid hb1
  have HB := Lib.hid hbw1
  clear hb1 hbw1 hsz1
  have c0 := H1.out.at_ A1.out
  have c1 := H1.out.at_ A2.out
  have c2 := H1.out.at_ A3.out
  have c3 := H1.out.at_ A4.out
  have c4 := H1.out.at_ A5.out
  have w1' := fun w => ewithin_any e.kind 1 3 w
  have w2' := fun w => ewithin_any e.shard 0 63 w
  have w4' := fun w => ewithin_any e.why 0 63 w
  have w5' := fun w => ewithin_any e.epoch 0 1099511627776 w
  have HRE : Hid (res = (inB e.kind 1 3 && inB e.shard 0 63 && decide (e.amount ≤ 4611686018427387904) && inB e.why 0 63 && inB e.epoch 0 1099511627776)) := HRES
  obtain ⟨b1, hb1⟩ : ∃ b1, b1 = inB e.kind 1 3 := ⟨_, rfl⟩
  obtain ⟨b2, hb2⟩ : ∃ b2, b2 = inB e.shard 0 63 := ⟨_, rfl⟩
  obtain ⟨b4, hb4⟩ : ∃ b4, b4 = inB e.why 0 63 := ⟨_, rfl⟩
  obtain ⟨b5, hb5⟩ : ∃ b5, b5 = inB e.epoch 0 1099511627776 := ⟨_, rfl⟩
  rw [← hb1, ← hb2, ← hb4, ← hb5] at HRE
  have W1 := Lib.hid (show ∀ w, Calls Try.prog 114 #[.int .i64 e.kind, .int .i64 1, .int .i64 3] w fun en w' => en = .returned (.bool b1) ∧ w = w' by rw [hb1]; exact w1')
  have W2 := Lib.hid (show ∀ w, Calls Try.prog 114 #[.int .i64 e.shard, .int .i64 0, .int .i64 63] w fun en w' => en = .returned (.bool b2) ∧ w = w' by rw [hb2]; exact w2')
  have W4 := Lib.hid (show ∀ w, Calls Try.prog 114 #[.int .i64 e.why, .int .i64 0, .int .i64 63] w fun en w' => en = .returned (.bool b4) ∧ w = w' by rw [hb4]; exact w4')
  have W5 := Lib.hid (show ∀ w, Calls Try.prog 114 #[.int .i64 e.epoch, .int .i64 0, .int .i64 1099511627776] w fun en w' => en = .returned (.bool b5) ∧ w = w' by rw [hb5]; exact w5')
  clear hb1 hb2 hb4 hb5 w1' w2' w4' w5'
  generalize e.kind = k1 at *
  generalize e.shard = k2 at *
  generalize e.amount = k3 at *
  generalize e.why = k4 at *
  generalize e.epoch = k5 at *
  cases r
  · clear HZ HRES
    cases b1
    · go_wp2_with (first | (with_reducible refine wpl_loadb (o := ⟨some 3, _, _, _, _, _⟩) rfl rfl row_entry H1.out rfl HL.out ?_))
      go_wp2_with fail
      refine (W1.out _).mono ?_
      rintro e w_ ⟨rfl, rfl⟩
      go_wp2_with fail
      go_ret
      exact ⟨ret_bool (by rw [HRE.out]; rfl), by rw [← HG.out]; exact HB.out⟩
    cases b2
    · go_wp2_with (first | (with_reducible refine wpl_loadb (o := ⟨some 3, _, _, _, _, _⟩) rfl rfl row_entry H1.out rfl HL.out ?_))
      go_wp2_with fail
      refine (W1.out _).mono ?_
      rintro e w_ ⟨rfl, rfl⟩
      go_wp2_with fail
      refine (W2.out _).mono ?_
      rintro e w_ ⟨rfl, rfl⟩
      go_wp2_with fail
      go_ret
      exact ⟨ret_bool (by rw [HRE.out]; rfl), by rw [← HG.out]; exact HB.out⟩
    by_cases h3 : k3 ≤ 4611686018427387904
    · have d3 : decide (k3 ≤ 4611686018427387904) = true := by simpa using h3
      rw [d3] at HRE
      cases b4
      · go_wp2_with (first | (with_reducible refine wpl_loadb (o := ⟨some 3, _, _, _, _, _⟩) rfl rfl row_entry H1.out rfl HL.out ?_))
        go_wp2_with fail
        refine (W1.out _).mono ?_
        rintro e w_ ⟨rfl, rfl⟩
        go_wp2_with fail
        refine (W2.out _).mono ?_
        rintro e w_ ⟨rfl, rfl⟩
        go_wp2_with fail
        refine (W4.out _).mono ?_
        rintro e w_ ⟨rfl, rfl⟩
        go_wp2_with fail
        go_ret
        exact ⟨ret_bool (by rw [HRE.out]; rfl), by rw [← HG.out]; exact HB.out⟩
      · go_wp2_with (first | (with_reducible refine wpl_loadb (o := ⟨some 3, _, _, _, _, _⟩) rfl rfl row_entry H1.out rfl HL.out ?_))
        go_wp2_with fail
        refine (W1.out _).mono ?_
        rintro e w_ ⟨rfl, rfl⟩
        go_wp2_with fail
        refine (W2.out _).mono ?_
        rintro e w_ ⟨rfl, rfl⟩
        go_wp2_with fail
        refine (W4.out _).mono ?_
        rintro e w_ ⟨rfl, rfl⟩
        go_wp2_with fail
        refine (W5.out _).mono ?_
        rintro e w_ ⟨rfl, rfl⟩
        go_wp2_with fail
        go_ret
        exact ⟨ret_bool (by rw [HRE.out]; simp), by rw [← HG.out]; exact HB.out⟩
    · have d3 : decide (k3 ≤ 4611686018427387904) = false := by simpa using h3
      rw [d3] at HRE
      go_wp2_with (first | (with_reducible refine wpl_loadb (o := ⟨some 3, _, _, _, _, _⟩) rfl rfl row_entry H1.out rfl HL.out ?_))
      go_wp2_with fail
      refine (W1.out _).mono ?_
      rintro e w_ ⟨rfl, rfl⟩
      go_wp2_with fail
      refine (W2.out _).mono ?_
      rintro e w_ ⟨rfl, rfl⟩
      go_wp2_with fail
      go_ret
      exact ⟨ret_bool (by rw [HRE.out]; simp), by rw [← HG.out]; exact HB.out⟩
  · have hf : res = false := HRES.out.trans (by simpa using HZ.out)
    have HF := Lib.hid hf
    clear hf
    go_wp2_with (first | (with_reducible refine wpl_loadb (o := ⟨some 3, _, _, _, _, _⟩) rfl rfl row_entry H1.out rfl HL.out ?_))
    go_ret
    exact ⟨ret_bool (by rw [HF.out]), by rw [← HG.out]; exact HB.out⟩
theorem zeroV_of {P : Program} {t : TypeId} {zs : Array Value} (h : (P.info? t).map (·.zero) = some (some (.agg zs))) (w : World) : (zeroValue t).run P w = .ok (.agg zs) w := by
  obtain ⟨i, hi, hz⟩ := Option.map_eq_some_iff.1 h
  simp [zeroValue, typeInfo, hi, hz]
theorem zero_hdr : (Try.prog.info? 57).map (·.zero) = some (some (.agg zeroHdr)) := by kernel_rfl
theorem hdr_at {e : Hdr} (h : e.ok) : (hdrV e)[0]? = some (.int .i64 e.shard) ∧ (hdrV e)[1]? = some (.int .i64 e.height) ∧ (hdrV e)[2]? = some (.int .i64 e.epoch) := ⟨rfl, rfl, rfl⟩
set_option maxRecDepth 100000 in
set_option maxHeartbeats 1000000 in
theorem hright_any (e : Hdr) (w : World) (h : e.ok) : Calls Try.prog 101 #[.agg (hdrV e).toArray] w fun en w' => en = .returned (.bool (rightH e)) ∧ Below w.heap.size w w' := by
  obtain ⟨n4, hn4⟩ := types_3
  obtain ⟨r, hr, hq⟩ := eql_deep key_header (m := 3) (by omega) (by kernel_rfl) (by kernel_rfl) (by kernel_rfl) (hdrV e) (hdrV noHdr) (by rw [hdrV_length h, cells_header]) (by rw [hdrV_length noHdr_ok, cells_header]) (by rw [hn4]; exact lits_hdr (n4 + 1) e h) (by rw [hn4]; exact lits_hdr (n4 + 1) noHdr noHdr_ok)
  rw [zeroHdr_eq] at hq
  have hzv := fun w => zeroV_of zero_hdr w
  unfold zeroHdr at hq hzv
  have hz : r = true → rightH e = false := by
    intro h1
    have h2 := hr.1 h1
    have h3 : e.height = 0 := by
      have := congrArg (fun l => l[1]?) h2
      simpa [hdrV, noHdr] using this
    unfold rightH inB
    rw [h3]; simp
  obtain ⟨a1, a2, a3⟩ := hdr_at h
  have HL := Lib.hid (hdrV_length h)
  obtain ⟨xs, hxs⟩ : ∃ xs, xs = hdrV e := ⟨_, rfl⟩
  rw [← hxs] at hq a1 a2 a3 HL ⊢
  have HZ := Lib.hid hz
  have A1 := Lib.hid a1; have A2 := Lib.hid a2; have A3 := Lib.hid a3
  obtain ⟨res, hres⟩ : ∃ res, res = rightH e := ⟨_, rfl⟩
  rw [← hres]
  have HRES := Lib.hid hres
  obtain ⟨g, hg⟩ : ∃ g, g = w.heap.size := ⟨_, rfl⟩
  have HG := Lib.hid hg
  clear hz a1 a2 a3 hr hxs hres hg h hn4
  go_enter Try.func101, Try.ntmps101
  go_wp2_with (first | (with_reducible refine wpl_box (o := ⟨some 1, _, _, _, _, _⟩) rfl rfl rfl ?_))
  intro w1 hb1 hbw1 hsz1
  rw [← HG.out] at hb1 hbw1 hsz1 ⊢
  have H1 := Lib.hid hb1
  have HB := Lib.hid hbw1
  clear hb1 hbw1 hsz1
  have c0 := H1.out.at_ A1.out
  have c1 := H1.out.at_ A2.out
  have c2 := H1.out.at_ A3.out
  have w1' := fun w => hwithin_any e.shard 0 63 w
  have w2' := fun w => hwithin_any e.height 1 1099511627776 w
  have w3' := fun w => hwithin_any e.epoch 0 1099511627776 w
  have HRE : Hid (res = (inB e.shard 0 63 && inB e.height 1 1099511627776 && inB e.epoch 0 1099511627776)) := HRES
  obtain ⟨b1, hb1⟩ : ∃ b1, b1 = inB e.shard 0 63 := ⟨_, rfl⟩
  obtain ⟨b2, hb2⟩ : ∃ b2, b2 = inB e.height 1 1099511627776 := ⟨_, rfl⟩
  obtain ⟨b3, hb3⟩ : ∃ b3, b3 = inB e.epoch 0 1099511627776 := ⟨_, rfl⟩
  rw [← hb1, ← hb2, ← hb3] at HRE
  have W1 := Lib.hid (show ∀ w, Calls Try.prog 115 #[.int .i64 e.shard, .int .i64 0, .int .i64 63] w fun en w' => en = .returned (.bool b1) ∧ w = w' by rw [hb1]; exact w1')
  have W2 := Lib.hid (show ∀ w, Calls Try.prog 115 #[.int .i64 e.height, .int .i64 1, .int .i64 1099511627776] w fun en w' => en = .returned (.bool b2) ∧ w = w' by rw [hb2]; exact w2')
  have W3 := Lib.hid (show ∀ w, Calls Try.prog 115 #[.int .i64 e.epoch, .int .i64 0, .int .i64 1099511627776] w fun en w' => en = .returned (.bool b3) ∧ w = w' by rw [hb3]; exact w3')
  clear hb1 hb2 hb3 w1' w2' w3'
  generalize e.shard = k1 at *
  generalize e.height = k2 at *
  generalize e.epoch = k3 at *
  cases r
  · clear HZ HRES
    cases b1
    · go_wp2_with (first | (with_reducible refine wpl_loadb (o := ⟨some 3, _, _, _, _, _⟩) rfl rfl row_header H1.out rfl HL.out ?_))
      go_wp2_with fail
      refine (W1.out _).mono ?_
      rintro e w_ ⟨rfl, rfl⟩
      go_wp2_with fail
      go_ret
      exact ⟨ret_bool (by rw [HRE.out]; rfl), by rw [← HG.out]; exact HB.out⟩
    cases b2
    · go_wp2_with (first | (with_reducible refine wpl_loadb (o := ⟨some 3, _, _, _, _, _⟩) rfl rfl row_header H1.out rfl HL.out ?_))
      go_wp2_with fail
      refine (W1.out _).mono ?_
      rintro e w_ ⟨rfl, rfl⟩
      go_wp2_with fail
      refine (W2.out _).mono ?_
      rintro e w_ ⟨rfl, rfl⟩
      go_wp2_with fail
      go_ret
      exact ⟨ret_bool (by rw [HRE.out]; rfl), by rw [← HG.out]; exact HB.out⟩
    · go_wp2_with (first | (with_reducible refine wpl_loadb (o := ⟨some 3, _, _, _, _, _⟩) rfl rfl row_header H1.out rfl HL.out ?_))
      go_wp2_with fail
      refine (W1.out _).mono ?_
      rintro e w_ ⟨rfl, rfl⟩
      go_wp2_with fail
      refine (W2.out _).mono ?_
      rintro e w_ ⟨rfl, rfl⟩
      go_wp2_with fail
      refine (W3.out _).mono ?_
      rintro e w_ ⟨rfl, rfl⟩
      go_wp2_with fail
      go_ret
      exact ⟨ret_bool (by rw [HRE.out]; simp), by rw [← HG.out]; exact HB.out⟩
  · have hf : res = false := HRES.out.trans (by simpa using HZ.out)
    have HF := Lib.hid hf
    clear hf
    go_wp2_with (first | (with_reducible refine wpl_loadb (o := ⟨some 3, _, _, _, _, _⟩) rfl rfl row_header H1.out rfl HL.out ?_))
    go_ret
    exact ⟨ret_bool (by rw [HF.out]), by rw [← HG.out]; exact HB.out⟩
end Go.Proofs.Ytobmldegjajocaa
/- Contracts of layer 6: a digest's bytes, a key filled, a pad turned. -/
namespace Go.Proofs.Ytobmldegjajocaa
open Go.RowKit Go.Shelf
set_option linter.unusedVariables false
theorem Dig.at_ {xs : List Value} {d : List UInt8} (h : Dig xs d) {k : Nat} (hk : k < 32) : ∃ x : UInt8, xs[k]? = some (.int .u8 (b8 x)) ∧ d[k]? = some x := by
  have hl := h.2
  refine ⟨d[k]'(by omega), ?_, List.getElem?_eq_getElem (by omega)⟩
  rw [h.1, List.getElem?_map, List.getElem?_eq_getElem (by omega)]; rfl
set_option maxRecDepth 100000 in
set_option maxHeartbeats 1000000 in
theorem tbytes_any {xs : List Value} {d : List UInt8} (hx : Dig xs d) (w : World) :
    Calls Try.prog 32 #[.agg xs.toArray] w fun e w' => ∃ A' c', e = .returned (.slice A' 32 c') ∧ Sl w' w'.heap.size 1 A' 32 (d.map B) ∧ 32 ≤ c' ∧ Below w.heap.size w w' := by
  have HD := Lib.hid hx
  have HB := Lib.hid (Below.refl w.heap.size w)
  clear hx
  go_enter Try.func32, Try.ntmps32
  go_wp2_with (first | (with_reducible refine wpl_box (o := ⟨some 1, _, _, _, _, _⟩) rfl rfl rfl ?_))
  intro w2_ hb2_ hb_ hsz2_
  have HX_ := Lib.hid (at_mk hb2_ HD.out.len)
  clear hb2_ hsz2_
  have HB_ := Lib.hid (HB.out.grow' hb_)
  clear HB
  have HB := HB_
  clear HB_
  have HX := HX_
  clear hb_ HX_
  try clear w_
  rename World => w_
  go_wp2_with fail
  go_loopw [3, 4] (fun v i wr => ∃ k : Nat, ∃ A' c', k ≤ 32 ∧ i = .int .i64 k ∧ v = .slice A' k c' ∧ Hid (wr.ownsRow (w.heap.size + 1) 5 1 (.slice A' k c') k (xs.take k)) ∧ Hid (Below w.heap.size w wr) ∧ Hid (At wr w.heap.size 29 32 xs)) (fun _ i _ => 32 - (intOf i).toNat)
  case atStart => exact ⟨0, none, 0, by omega, rfl, rfl, Lib.hid (by simpa using World.ownsRow_nil _ _ _ _), HB, HX⟩
  case round =>
    obtain ⟨k, A3, c3, hk, rfl, rfl, hown, hbw, hat⟩ := hrel
    clear HB HX
    by_cases hlt : k < 32
    · obtain ⟨x, hx, _⟩ := HD.out.at_ hlt
      have hc := hat.out.blk.at_ hx
      have HXK := Lib.hid hx
      clear hx
      go_wp2_with (at_builtin; refine wpl_app1 rfl rfl el_u8 hown.out rfl (m := 1) rfl rfl ?_ ?_ ?_ ?_ ?_)
      · rfl
      · omega
      · omega
      · have := hat.out.lt; omega
      · intro A4 c4 w4 ho hg hA
        have HO := Lib.hid (show w4.ownsRow (w.heap.size + 1) 5 1 (.slice A4 (k + 1) c4) (k + 1) (xs.take (k + 1)) by rw [List.take_add_one, HXK.out]; exact ho)
        have HB := Lib.hid (show Below w.heap.size w w4 from hbw.out.grown hg hbw.out.size (fun g hg => by have := own_from hown.out g hg; omega))
        have HX := Lib.hid (at_mk (hat.out.blk.grown hg (by intro hh; have := own_from hown.out _ hh.symm; omega)) hat.out.len)
        clear ho hg hA hc
        go_wp2_with fail
        go_roundw
        case rel => exact ⟨k + 1, A4, c4, by omega, by go_num, rfl, HO, HB, HX⟩
        case measure => simp [intOf]; omega
    · obtain rfl : k = 32 := by omega
      have e : xs.take 32 = d.map B := by rw [List.take_of_length_le (by rw [HD.out.len]; exact Nat.le_refl _), HD.out.1]
      have HO := Lib.hid (e ▸ hown.out)
      clear e
      have HC := Lib.hid (own_form hown.out (by omega))
      go_wp2_with fail
      go_ret
      exact ⟨A3, c3, rfl, Sl.of_own HO.out, (by obtain ⟨g, _, _, _, h⟩ := HC.out; exact h), hbw.out⟩
end Go.Proofs.Ytobmldegjajocaa
/- Contract of sha.Under. -/
namespace Go.Proofs.Ytobmldegjajocaa
open Go.RowKit Go.Shelf
set_option linter.unusedVariables false
def longB (bs : List UInt8) : List UInt8 := beBytes bs.length 4 ++ bs
def underB (m : UInt8) (ls : List (List UInt8)) : List UInt8 := m :: ls.flatMap longB
theorem info_su8 : (Try.prog.info? 36).map (fun i => (i.zero, i.size, i.bytes)) = some (some (.slice none 0 0), 1, 24) := by kernel_rfl
theorem el_su8 : ElemT Try.prog 75 36 1 24 := elemT Try.underlying75 info_su8 rfl (by omega)
attribute [irreducible] underB longB
end Go.Proofs.Ytobmldegjajocaa
/- Contracts of layer 5: the length of a number, the first part, a leaf's and a node's digest; the document's. -/
namespace Go.Proofs.Ytobmldegjajocaa
open Go.RowKit Go.Shelf
set_option linter.unusedVariables false
/-- The greatest power of two below n. -/
def halfN (n : Nat) : Nat := 2 ^ Nat.log2 (n - 1)
theorem halfN_lt {n : Nat} (h : 2 ≤ n) : halfN n < n := by
  unfold halfN
  have := Nat.log2_self_le (n := n - 1) (by omega)
  omega
theorem halfN_pos (n : Nat) : 0 < halfN n := Nat.two_pow_pos _
def leafB (b : List UInt8) : List UInt8 := sha (underB 1 [b])
def nodeB (a b : List UInt8) : List UInt8 := sha (underB 2 [a, b])
def noneB : List UInt8 := sha (underB 0 [])
end Go.Proofs.Ytobmldegjajocaa

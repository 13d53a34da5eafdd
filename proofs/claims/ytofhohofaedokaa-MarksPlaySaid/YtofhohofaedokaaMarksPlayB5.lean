/- Contracts of entry.Right and header.Right. -/
import Derived.Test.YtofhohofaedokaaMarksPlayB1
import Derived.Test.YtofhohofaedokaaRows
import Derived.Test.YtofhohofaedokaaMarksPlayB3
import Derived.Test.YtofhohofaedokaaMarksPlayB4
set_option linter.unusedSimpArgs false
/- Contracts of entry.Right and header.Right. -/
namespace Go.Proofs.Ytofhohofaedokaa
open Go.RowKit
set_option linter.unusedVariables false

structure Ent where
  kind : Int
  shard : Int
  tx : List UInt8
  amount : Int
  why : Int
  epoch : Int
structure Hdr where
  shard : Int
  height : Int
  epoch : Int
  prev : List UInt8
  root : List UInt8
def I64 (n : Int) : Prop := -9223372036854775808 ≤ n ∧ n ≤ 9223372036854775807
def U64 (n : Int) : Prop := 0 ≤ n ∧ n ≤ 18446744073709551615
theorem I64.wf {n : Int} (h : I64 n) : (Lit.int .i64 n).wf = true := by unfold I64 at h; simp [Lit.wf, IntKind.min, IntKind.max, IntKind.signed, IntKind.bits]; omega
theorem U64.wf {n : Int} (h : U64 n) : (Lit.int .u64 n).wf = true := by unfold U64 at h; simp [Lit.wf, IntKind.min, IntKind.max, IntKind.signed, IntKind.bits]; omega
def Ent.ok (e : Ent) : Prop := I64 e.kind ∧ I64 e.shard ∧ e.tx.length = 32 ∧ U64 e.amount ∧ I64 e.why ∧ I64 e.epoch
def Hdr.ok (h : Hdr) : Prop := I64 h.shard ∧ I64 h.height ∧ I64 h.epoch ∧ h.prev.length = 32 ∧ h.root.length = 32
def entV (e : Ent) : List Value := .int .i64 e.kind :: .int .i64 e.shard :: (e.tx.map B ++ [.int .u64 e.amount, .int .i64 e.why, .int .i64 e.epoch])
def hdrV (h : Hdr) : List Value := .int .i64 h.shard :: .int .i64 h.height :: .int .i64 h.epoch :: (h.prev.map B ++ h.root.map B)
theorem entV_length {e : Ent} (h : e.ok) : (entV e).length = 37 := by simp [entV, h.2.2.1]
theorem hdrV_length {e : Hdr} (h : e.ok) : (hdrV e).length = 67 := by simp [hdrV, h.2.2.2.1, h.2.2.2.2]
def noEnt : Ent := ⟨0, 0, List.replicate 32 0, 0, 0, 0⟩
def noHdr : Hdr := ⟨0, 0, 0, List.replicate 32 0, List.replicate 32 0⟩
theorem noEnt_ok : noEnt.ok := by simp [noEnt, Ent.ok, I64, U64]
theorem noHdr_ok : noHdr.ok := by simp [noHdr, Hdr.ok, I64]

theorem cells_entry : Try.prog.cellsOf 31 = 37 := by kernel_rfl
theorem cells_header : Try.prog.cellsOf 34 = 67 := by kernel_rfl
theorem laid_out' : laidOutB Try.prog = true := by kernel_rfl
theorem key_entry : WideMaps.KeyLaw Try.prog 31 := deep_law_laid laid_out' (m := 3) (by omega) (of_decide_eq_true (by kernel_rfl)) (by kernel_rfl) (by kernel_rfl)
theorem key_header : WideMaps.KeyLaw Try.prog 34 := deep_law_laid laid_out' (m := 3) (by omega) (of_decide_eq_true (by kernel_rfl)) (by kernel_rfl) (by kernel_rfl)
theorem row_entry : RowT Try.prog 31 37 := ⟨_, Try.underlying31, by kernel_rfl, by kernel_rfl⟩
theorem row_header : RowT Try.prog 34 67 := ⟨_, Try.underlying34, by kernel_rfl, by kernel_rfl⟩
theorem types_3 : ∃ n, Try.prog.types.size + 1 = n + 4 := ⟨Try.prog.types.size - 3, by kernel_rfl⟩

theorem lits_id (d : Nat) (ds : List UInt8) (h : ds.length = 32) : ∃ l, Try.prog.keyLits (d + 2) 28 (ds.map B) = some l :=
  kl_bytes Try.underlying28 Try.underlying5 cells_u8 cells_id d ds h
theorem lits_ent (d : Nat) (e : Ent) (h : e.ok) : ∃ l, Try.prog.keyLits (d + 3) 31 (entV e) = some l := by
  refine kl_struct Try.underlying31 _ _ (by rw [entV_length h, cells_entry]) (by kernel_rfl) ?_
  obtain ⟨h1, h2, h3, h4, h5, h6⟩ := h
  have e0 : (e.tx.map B).length = 32 := by rw [List.length_map, h3]
  intro f hf
  simp only [List.mem_cons, List.not_mem_nil, or_false] at hf
  rcases hf with rfl | rfl | rfl | rfl | rfl | rfl
  · simp only [cells_int]; exact kl_int Try.underlying3 _ _ h1.wf
  · simp only [cells_int]; exact kl_int Try.underlying3 _ _ h2.wf
  · have : List.take 32 (List.drop 2 (entV e)) = e.tx.map B := by unfold entV; rw [List.drop_succ_cons, List.drop_succ_cons, List.drop_zero, List.take_append_of_le_length (by omega), List.take_of_length_le (by omega)]
    simp only [cells_id, this]; exact lits_id _ _ h3
  · have : List.take 1 (List.drop 34 (entV e)) = [.int .u64 e.amount] := by
      unfold entV; rw [List.drop_succ_cons, List.drop_succ_cons, List.drop_append_of_le_length (by omega), List.drop_of_length_le (by omega)]; rfl
    simp only [cells_u64, this]; exact kl_int Try.underlying29 _ _ h4.wf
  · have : List.take 1 (List.drop 35 (entV e)) = [.int .i64 e.why] := by
      unfold entV; rw [List.drop_succ_cons, List.drop_succ_cons, List.drop_append, e0, List.drop_of_length_le (by omega)]; rfl
    simp only [cells_int, this]; exact kl_int Try.underlying3 _ _ h5.wf
  · have : List.take 1 (List.drop 36 (entV e)) = [.int .i64 e.epoch] := by
      unfold entV; rw [List.drop_succ_cons, List.drop_succ_cons, List.drop_append, e0, List.drop_of_length_le (by omega)]; rfl
    simp only [cells_int, this]; exact kl_int Try.underlying3 _ _ h6.wf
theorem lits_hdr (d : Nat) (e : Hdr) (h : e.ok) : ∃ l, Try.prog.keyLits (d + 3) 34 (hdrV e) = some l := by
  refine kl_struct Try.underlying34 _ _ (by rw [hdrV_length h, cells_header]) (by kernel_rfl) ?_
  obtain ⟨h1, h2, h3, h4, h5⟩ := h
  have e0 : (e.prev.map B).length = 32 := by rw [List.length_map, h4]
  have e1 : (e.root.map B).length = 32 := by rw [List.length_map, h5]
  intro f hf
  simp only [List.mem_cons, List.not_mem_nil, or_false] at hf
  rcases hf with rfl | rfl | rfl | rfl | rfl
  · simp only [cells_int]; exact kl_int Try.underlying3 _ _ h1.wf
  · simp only [cells_int]; exact kl_int Try.underlying3 _ _ h2.wf
  · simp only [cells_int]; exact kl_int Try.underlying3 _ _ h3.wf
  · have : List.take 32 (List.drop 3 (hdrV e)) = e.prev.map B := by unfold hdrV; rw [List.drop_succ_cons, List.drop_succ_cons, List.drop_succ_cons, List.drop_zero, List.take_append_of_le_length (by omega), List.take_of_length_le (by omega)]
    simp only [cells_id, this]; exact lits_id _ _ h4
  · have : List.take 32 (List.drop 35 (hdrV e)) = e.root.map B := by
      unfold hdrV; rw [List.drop_succ_cons, List.drop_succ_cons, List.drop_succ_cons, List.drop_append_of_le_length (by omega), List.drop_of_length_le (by omega), List.nil_append, List.take_of_length_le (by omega)]
    simp only [cells_id, this]; exact lits_id _ _ h5

theorem ewithin_any (n lo hi : Int) (w : World) : Calls Try.prog 50 #[.int .i64 n, .int .i64 lo, .int .i64 hi] w fun e w' => e = .returned (.bool (decide (lo ≤ n) && decide (n ≤ hi))) ∧ w = w' := by
  by_cases h : lo ≤ n
  · rw [show decide (lo ≤ n) = true by simpa using h, Bool.true_and]
    go_enter Try.func50, Try.ntmps50
    go_wp2
    go_ret
    exact ⟨rfl, rfl⟩
  · rw [show decide (lo ≤ n) = false by simpa using h, Bool.false_and]
    have h2 : decide (lo ≤ n) = false := by simpa using h
    go_enter Try.func50, Try.ntmps50
    go_wp2
    go_ret
    exact ⟨rfl, rfl⟩
theorem hwithin_any (n lo hi : Int) (w : World) : Calls Try.prog 51 #[.int .i64 n, .int .i64 lo, .int .i64 hi] w fun e w' => e = .returned (.bool (decide (lo ≤ n) && decide (n ≤ hi))) ∧ w = w' := by
  by_cases h : lo ≤ n
  · rw [show decide (lo ≤ n) = true by simpa using h, Bool.true_and]
    go_enter Try.func51, Try.ntmps51
    go_wp2
    go_ret
    exact ⟨rfl, rfl⟩
  · rw [show decide (lo ≤ n) = false by simpa using h, Bool.false_and]
    have h2 : decide (lo ≤ n) = false := by simpa using h
    go_enter Try.func51, Try.ntmps51
    go_wp2
    go_ret
    exact ⟨rfl, rfl⟩
def inB (n lo hi : Int) : Bool := decide (lo ≤ n) && decide (n ≤ hi)
def rightE (e : Ent) : Bool := inB e.kind 1 3 && inB e.shard 0 63 && decide (e.amount ≤ 4611686018427387904) && inB e.why 0 63 && inB e.epoch 0 1099511627776
def rightH (h : Hdr) : Bool := inB h.shard 0 63 && inB h.height 1 1099511627776 && inB h.epoch 0 1099511627776

def zeroEnt : Array Value := #[.int .i64 0, .int .i64 0, .int .u8 0, .int .u8 0, .int .u8 0, .int .u8 0, .int .u8 0, .int .u8 0, .int .u8 0, .int .u8 0, .int .u8 0, .int .u8 0, .int .u8 0, .int .u8 0, .int .u8 0, .int .u8 0, .int .u8 0, .int .u8 0, .int .u8 0, .int .u8 0, .int .u8 0, .int .u8 0, .int .u8 0, .int .u8 0, .int .u8 0, .int .u8 0, .int .u8 0, .int .u8 0, .int .u8 0, .int .u8 0, .int .u8 0, .int .u8 0, .int .u8 0, .int .u8 0, .int .u64 0, .int .i64 0, .int .i64 0]
def zeroHdr : Array Value := #[.int .i64 0, .int .i64 0, .int .i64 0, .int .u8 0, .int .u8 0, .int .u8 0, .int .u8 0, .int .u8 0, .int .u8 0, .int .u8 0, .int .u8 0, .int .u8 0, .int .u8 0, .int .u8 0, .int .u8 0, .int .u8 0, .int .u8 0, .int .u8 0, .int .u8 0, .int .u8 0, .int .u8 0, .int .u8 0, .int .u8 0, .int .u8 0, .int .u8 0, .int .u8 0, .int .u8 0, .int .u8 0, .int .u8 0, .int .u8 0, .int .u8 0, .int .u8 0, .int .u8 0, .int .u8 0, .int .u8 0, .int .u8 0, .int .u8 0, .int .u8 0, .int .u8 0, .int .u8 0, .int .u8 0, .int .u8 0, .int .u8 0, .int .u8 0, .int .u8 0, .int .u8 0, .int .u8 0, .int .u8 0, .int .u8 0, .int .u8 0, .int .u8 0, .int .u8 0, .int .u8 0, .int .u8 0, .int .u8 0, .int .u8 0, .int .u8 0, .int .u8 0, .int .u8 0, .int .u8 0, .int .u8 0, .int .u8 0, .int .u8 0, .int .u8 0, .int .u8 0, .int .u8 0, .int .u8 0]
theorem zeroEnt_eq : (entV noEnt).toArray = zeroEnt := rfl
theorem zeroHdr_eq : (hdrV noHdr).toArray = zeroHdr := rfl

theorem ent_at {e : Ent} (h : e.ok) : (entV e)[0]? = some (.int .i64 e.kind) ∧ (entV e)[1]? = some (.int .i64 e.shard) ∧ (entV e)[34]? = some (.int .u64 e.amount) ∧ (entV e)[35]? = some (.int .i64 e.why) ∧ (entV e)[36]? = some (.int .i64 e.epoch) := by
  have e0 : (e.tx.map B).length = 32 := by rw [List.length_map, h.2.2.1]
  refine ⟨rfl, rfl, ?_, ?_, ?_⟩
  all_goals
    unfold entV
    rw [List.getElem?_cons_succ, List.getElem?_cons_succ, List.getElem?_append_right (by omega), e0]
    rfl

set_option maxRecDepth 100000 in
set_option maxHeartbeats 1000000 in
theorem eright_any (e : Ent) (w : World) (h : e.ok) : Calls Try.prog 34 #[.agg (entV e).toArray] w fun en w' => en = .returned (.bool (rightE e)) ∧ Below w.heap.size w w' := by
  obtain ⟨n4, hn4⟩ := types_3
  obtain ⟨r, hr, hq⟩ := eql_deep key_entry (m := 3) (by omega) (by kernel_rfl) (by kernel_rfl) (by kernel_rfl) (entV e) (entV noEnt) (by rw [entV_length h, cells_entry]) (by rw [entV_length noEnt_ok, cells_entry]) (by rw [hn4]; exact lits_ent (n4 + 1) e h) (by rw [hn4]; exact lits_ent (n4 + 1) noEnt noEnt_ok)
  rw [zeroEnt_eq] at hq
  unfold zeroEnt at hq
  have hz : r = true → rightE e = false := by
    intro h1
    have h2 := hr.1 h1
    have h3 : e.kind = 0 := by
      have := congrArg List.head? h2
      simpa [entV, noEnt] using this
    unfold rightE inB
    rw [h3]; rfl
  obtain ⟨a1, a2, a3, a4, a5⟩ := ent_at h
  have HL := Lib.hid (entV_length h)
  obtain ⟨xs, hxs⟩ : ∃ xs, xs = entV e := ⟨_, rfl⟩
  rw [← hxs] at hq a1 a2 a3 a4 a5 HL ⊢
  have HZ := Lib.hid hz
  have A1 := Lib.hid a1; have A2 := Lib.hid a2; have A3 := Lib.hid a3; have A4 := Lib.hid a4; have A5 := Lib.hid a5
  obtain ⟨res, hres⟩ : ∃ res, res = rightE e := ⟨_, rfl⟩
  rw [← hres]
  have HRES := Lib.hid hres
  obtain ⟨g, hg⟩ : ∃ g, g = w.heap.size := ⟨_, rfl⟩
  have HG := Lib.hid hg
  clear hz a1 a2 a3 a4 a5 hr hxs hres hg h hn4
  go_enter Try.func34, Try.ntmps34
  go_wp2_with (first | (with_reducible refine wpl_box (o := ⟨some 1, _, _, _, _, _⟩) rfl rfl rfl ?_))
  intro w1 hb1 hbw1 hsz1
  rw [← HG.out] at hb1 hbw1 hsz1 ⊢
  have H1 := Lib.hid hb1
  have HB := Lib.hid hbw1
  clear hb1 hbw1 hsz1
  have c0 := H1.out.at_ A1.out
  have c1 := H1.out.at_ A2.out
  have c2 := H1.out.at_ A3.out
  have c3 := H1.out.at_ A4.out
  have c4 := H1.out.at_ A5.out
  have w1' := fun w => ewithin_any e.kind 1 3 w
  have w2' := fun w => ewithin_any e.shard 0 63 w
  have w4' := fun w => ewithin_any e.why 0 63 w
  have w5' := fun w => ewithin_any e.epoch 0 1099511627776 w
  have HRE : Hid (res = (inB e.kind 1 3 && inB e.shard 0 63 && decide (e.amount ≤ 4611686018427387904) && inB e.why 0 63 && inB e.epoch 0 1099511627776)) := HRES
  obtain ⟨b1, hb1⟩ : ∃ b1, b1 = inB e.kind 1 3 := ⟨_, rfl⟩
  obtain ⟨b2, hb2⟩ : ∃ b2, b2 = inB e.shard 0 63 := ⟨_, rfl⟩
  obtain ⟨b4, hb4⟩ : ∃ b4, b4 = inB e.why 0 63 := ⟨_, rfl⟩
  obtain ⟨b5, hb5⟩ : ∃ b5, b5 = inB e.epoch 0 1099511627776 := ⟨_, rfl⟩
  rw [← hb1, ← hb2, ← hb4, ← hb5] at HRE
  have W1 := Lib.hid (show ∀ w, Calls Try.prog 50 #[.int .i64 e.kind, .int .i64 1, .int .i64 3] w fun en w' => en = .returned (.bool b1) ∧ w = w' by rw [hb1]; exact w1')
  have W2 := Lib.hid (show ∀ w, Calls Try.prog 50 #[.int .i64 e.shard, .int .i64 0, .int .i64 63] w fun en w' => en = .returned (.bool b2) ∧ w = w' by rw [hb2]; exact w2')
  have W4 := Lib.hid (show ∀ w, Calls Try.prog 50 #[.int .i64 e.why, .int .i64 0, .int .i64 63] w fun en w' => en = .returned (.bool b4) ∧ w = w' by rw [hb4]; exact w4')
  have W5 := Lib.hid (show ∀ w, Calls Try.prog 50 #[.int .i64 e.epoch, .int .i64 0, .int .i64 1099511627776] w fun en w' => en = .returned (.bool b5) ∧ w = w' by rw [hb5]; exact w5')
  clear hb1 hb2 hb4 hb5 w1' w2' w4' w5'
  generalize e.kind = k1 at *
  generalize e.shard = k2 at *
  generalize e.amount = k3 at *
  generalize e.why = k4 at *
  generalize e.epoch = k5 at *
  cases r
  · clear HZ HRES
    cases b1
    · go_wp2_with (first | (with_reducible refine wpl_loadb (o := ⟨some 3, _, _, _, _, _⟩) rfl rfl row_entry H1.out rfl HL.out ?_))
      go_wp2_with fail
      refine (W1.out _).mono ?_
      rintro e w_ ⟨rfl, rfl⟩
      go_wp2_with fail
      go_ret
      exact ⟨ret_bool (by rw [HRE.out]; rfl), by rw [← HG.out]; exact HB.out⟩
    cases b2
    · go_wp2_with (first | (with_reducible refine wpl_loadb (o := ⟨some 3, _, _, _, _, _⟩) rfl rfl row_entry H1.out rfl HL.out ?_))
      go_wp2_with fail
      refine (W1.out _).mono ?_
      rintro e w_ ⟨rfl, rfl⟩
      go_wp2_with fail
      refine (W2.out _).mono ?_
      rintro e w_ ⟨rfl, rfl⟩
      go_wp2_with fail
      go_ret
      exact ⟨ret_bool (by rw [HRE.out]; rfl), by rw [← HG.out]; exact HB.out⟩
    by_cases h3 : k3 ≤ 4611686018427387904
    · have d3 : decide (k3 ≤ 4611686018427387904) = true := by simpa using h3
      rw [d3] at HRE
      cases b4
      · go_wp2_with (first | (with_reducible refine wpl_loadb (o := ⟨some 3, _, _, _, _, _⟩) rfl rfl row_entry H1.out rfl HL.out ?_))
        go_wp2_with fail
        refine (W1.out _).mono ?_
        rintro e w_ ⟨rfl, rfl⟩
        go_wp2_with fail
        refine (W2.out _).mono ?_
        rintro e w_ ⟨rfl, rfl⟩
        go_wp2_with fail
        refine (W4.out _).mono ?_
        rintro e w_ ⟨rfl, rfl⟩
        go_wp2_with fail
        go_ret
        exact ⟨ret_bool (by rw [HRE.out]; rfl), by rw [← HG.out]; exact HB.out⟩
      · go_wp2_with (first | (with_reducible refine wpl_loadb (o := ⟨some 3, _, _, _, _, _⟩) rfl rfl row_entry H1.out rfl HL.out ?_))
        go_wp2_with fail
        refine (W1.out _).mono ?_
        rintro e w_ ⟨rfl, rfl⟩
        go_wp2_with fail
        refine (W2.out _).mono ?_
        rintro e w_ ⟨rfl, rfl⟩
        go_wp2_with fail
        refine (W4.out _).mono ?_
        rintro e w_ ⟨rfl, rfl⟩
        go_wp2_with fail
        refine (W5.out _).mono ?_
        rintro e w_ ⟨rfl, rfl⟩
        go_wp2_with fail
        go_ret
        exact ⟨ret_bool (by rw [HRE.out]; simp), by rw [← HG.out]; exact HB.out⟩
    · have d3 : decide (k3 ≤ 4611686018427387904) = false := by simpa using h3
      rw [d3] at HRE
      go_wp2_with (first | (with_reducible refine wpl_loadb (o := ⟨some 3, _, _, _, _, _⟩) rfl rfl row_entry H1.out rfl HL.out ?_))
      go_wp2_with fail
      refine (W1.out _).mono ?_
      rintro e w_ ⟨rfl, rfl⟩
      go_wp2_with fail
      refine (W2.out _).mono ?_
      rintro e w_ ⟨rfl, rfl⟩
      go_wp2_with fail
      go_ret
      exact ⟨ret_bool (by rw [HRE.out]; simp), by rw [← HG.out]; exact HB.out⟩
  · have hf : res = false := HRES.out.trans (by simpa using HZ.out)
    have HF := Lib.hid hf
    clear hf
    go_wp2_with (first | (with_reducible refine wpl_loadb (o := ⟨some 3, _, _, _, _, _⟩) rfl rfl row_entry H1.out rfl HL.out ?_))
    go_ret
    exact ⟨ret_bool (by rw [HF.out]), by rw [← HG.out]; exact HB.out⟩

theorem zeroV_of {P : Program} {t : TypeId} {zs : Array Value} (h : (P.info? t).map (·.zero) = some (some (.agg zs))) (w : World) : (zeroValue t).run P w = .ok (.agg zs) w := by
  obtain ⟨i, hi, hz⟩ := Option.map_eq_some_iff.1 h
  simp [zeroValue, typeInfo, hi, hz]
theorem zero_hdr : (Try.prog.info? 34).map (·.zero) = some (some (.agg zeroHdr)) := by kernel_rfl
theorem hdr_at {e : Hdr} (h : e.ok) : (hdrV e)[0]? = some (.int .i64 e.shard) ∧ (hdrV e)[1]? = some (.int .i64 e.height) ∧ (hdrV e)[2]? = some (.int .i64 e.epoch) := ⟨rfl, rfl, rfl⟩
set_option maxRecDepth 100000 in
set_option maxHeartbeats 1000000 in
theorem hright_any (e : Hdr) (w : World) (h : e.ok) : Calls Try.prog 35 #[.agg (hdrV e).toArray] w fun en w' => en = .returned (.bool (rightH e)) ∧ Below w.heap.size w w' := by
  obtain ⟨n4, hn4⟩ := types_3
  obtain ⟨r, hr, hq⟩ := eql_deep key_header (m := 3) (by omega) (by kernel_rfl) (by kernel_rfl) (by kernel_rfl) (hdrV e) (hdrV noHdr) (by rw [hdrV_length h, cells_header]) (by rw [hdrV_length noHdr_ok, cells_header]) (by rw [hn4]; exact lits_hdr (n4 + 1) e h) (by rw [hn4]; exact lits_hdr (n4 + 1) noHdr noHdr_ok)
  rw [zeroHdr_eq] at hq
  have hzv := fun w => zeroV_of zero_hdr w
  unfold zeroHdr at hq hzv
  have hz : r = true → rightH e = false := by
    intro h1
    have h2 := hr.1 h1
    have h3 : e.height = 0 := by
      have := congrArg (fun l => l[1]?) h2
      simpa [hdrV, noHdr] using this
    unfold rightH inB
    rw [h3]; simp
  obtain ⟨a1, a2, a3⟩ := hdr_at h
  have HL := Lib.hid (hdrV_length h)
  obtain ⟨xs, hxs⟩ : ∃ xs, xs = hdrV e := ⟨_, rfl⟩
  rw [← hxs] at hq a1 a2 a3 HL ⊢
  have HZ := Lib.hid hz
  have A1 := Lib.hid a1; have A2 := Lib.hid a2; have A3 := Lib.hid a3
  obtain ⟨res, hres⟩ : ∃ res, res = rightH e := ⟨_, rfl⟩
  rw [← hres]
  have HRES := Lib.hid hres
  obtain ⟨g, hg⟩ : ∃ g, g = w.heap.size := ⟨_, rfl⟩
  have HG := Lib.hid hg
  clear hz a1 a2 a3 hr hxs hres hg h hn4
  go_enter Try.func35, Try.ntmps35
  go_wp2_with (first | (with_reducible refine wpl_box (o := ⟨some 1, _, _, _, _, _⟩) rfl rfl rfl ?_))
  intro w1 hb1 hbw1 hsz1
  rw [← HG.out] at hb1 hbw1 hsz1 ⊢
  have H1 := Lib.hid hb1
  have HB := Lib.hid hbw1
  clear hb1 hbw1 hsz1
  have c0 := H1.out.at_ A1.out
  have c1 := H1.out.at_ A2.out
  have c2 := H1.out.at_ A3.out
  have w1' := fun w => hwithin_any e.shard 0 63 w
  have w2' := fun w => hwithin_any e.height 1 1099511627776 w
  have w3' := fun w => hwithin_any e.epoch 0 1099511627776 w
  have HRE : Hid (res = (inB e.shard 0 63 && inB e.height 1 1099511627776 && inB e.epoch 0 1099511627776)) := HRES
  obtain ⟨b1, hb1⟩ : ∃ b1, b1 = inB e.shard 0 63 := ⟨_, rfl⟩
  obtain ⟨b2, hb2⟩ : ∃ b2, b2 = inB e.height 1 1099511627776 := ⟨_, rfl⟩
  obtain ⟨b3, hb3⟩ : ∃ b3, b3 = inB e.epoch 0 1099511627776 := ⟨_, rfl⟩
  rw [← hb1, ← hb2, ← hb3] at HRE
  have W1 := Lib.hid (show ∀ w, Calls Try.prog 51 #[.int .i64 e.shard, .int .i64 0, .int .i64 63] w fun en w' => en = .returned (.bool b1) ∧ w = w' by rw [hb1]; exact w1')
  have W2 := Lib.hid (show ∀ w, Calls Try.prog 51 #[.int .i64 e.height, .int .i64 1, .int .i64 1099511627776] w fun en w' => en = .returned (.bool b2) ∧ w = w' by rw [hb2]; exact w2')
  have W3 := Lib.hid (show ∀ w, Calls Try.prog 51 #[.int .i64 e.epoch, .int .i64 0, .int .i64 1099511627776] w fun en w' => en = .returned (.bool b3) ∧ w = w' by rw [hb3]; exact w3')
  clear hb1 hb2 hb3 w1' w2' w3'
  generalize e.shard = k1 at *
  generalize e.height = k2 at *
  generalize e.epoch = k3 at *
  cases r
  · clear HZ HRES
    cases b1
    · go_wp2_with (first | (with_reducible refine wpl_loadb (o := ⟨some 3, _, _, _, _, _⟩) rfl rfl row_header H1.out rfl HL.out ?_))
      go_wp2_with fail
      refine (W1.out _).mono ?_
      rintro e w_ ⟨rfl, rfl⟩
      go_wp2_with fail
      go_ret
      exact ⟨ret_bool (by rw [HRE.out]; rfl), by rw [← HG.out]; exact HB.out⟩
    cases b2
    · go_wp2_with (first | (with_reducible refine wpl_loadb (o := ⟨some 3, _, _, _, _, _⟩) rfl rfl row_header H1.out rfl HL.out ?_))
      go_wp2_with fail
      refine (W1.out _).mono ?_
      rintro e w_ ⟨rfl, rfl⟩
      go_wp2_with fail
      refine (W2.out _).mono ?_
      rintro e w_ ⟨rfl, rfl⟩
      go_wp2_with fail
      go_ret
      exact ⟨ret_bool (by rw [HRE.out]; rfl), by rw [← HG.out]; exact HB.out⟩
    · go_wp2_with (first | (with_reducible refine wpl_loadb (o := ⟨some 3, _, _, _, _, _⟩) rfl rfl row_header H1.out rfl HL.out ?_))
      go_wp2_with fail
      refine (W1.out _).mono ?_
      rintro e w_ ⟨rfl, rfl⟩
      go_wp2_with fail
      refine (W2.out _).mono ?_
      rintro e w_ ⟨rfl, rfl⟩
      go_wp2_with fail
      refine (W3.out _).mono ?_
      rintro e w_ ⟨rfl, rfl⟩
      go_wp2_with fail
      go_ret
      exact ⟨ret_bool (by rw [HRE.out]; simp), by rw [← HG.out]; exact HB.out⟩
  · have hf : res = false := HRES.out.trans (by simpa using HZ.out)
    have HF := Lib.hid hf
    clear hf
    go_wp2_with (first | (with_reducible refine wpl_loadb (o := ⟨some 3, _, _, _, _, _⟩) rfl rfl row_header H1.out rfl HL.out ?_))
    go_ret
    exact ⟨ret_bool (by rw [HF.out]), by rw [← HG.out]; exact HB.out⟩
end Go.Proofs.Ytofhohofaedokaa

/- The keys of marks. -/
namespace Go.Proofs.Ytofhohofaedokaa
open Go.RowKit
set_option linter.unusedVariables false

abbrev MKey := Int × List UInt8
def mkV (k : MKey) : List Value := .int .i64 k.1 :: k.2.map B
def mkA (k : MKey) : Value := .agg (mkV k).toArray
def MKOK (k : MKey) : Prop := I64 k.1 ∧ k.2.length = 32
theorem mkV_length {k : MKey} (h : MKOK k) : (mkV k).length = 33 := by simp [mkV, h.2]
theorem kl_mkey : WideMaps.KeyLaw Try.prog 64 := deep_law_laid laid_out' (m := 3) (by omega) (of_decide_eq_true (by kernel_rfl)) (by kernel_rfl) (by kernel_rfl)
theorem cells_mkey : Try.prog.cellsOf 64 = 33 := by kernel_rfl
theorem lits_mkey (d : Nat) (k : MKey) (h : MKOK k) : ∃ l, Try.prog.keyLits (d + 3) 64 (mkV k) = some l := by
  refine kl_struct Try.underlying64 _ _ (by rw [mkV_length h, cells_mkey]) (by kernel_rfl) ?_
  obtain ⟨h1, h2⟩ := h
  have e0 : (k.2.map B).length = 32 := by rw [List.length_map, h2]
  intro f hf
  simp only [List.mem_cons, List.not_mem_nil, or_false] at hf
  rcases hf with rfl | rfl
  · simp only [cells_int]; exact kl_int Try.underlying3 _ _ h1.wf
  · have : List.take 32 (List.drop 1 (mkV k)) = k.2.map B := by unfold mkV; rw [List.drop_succ_cons, List.drop_zero, List.take_of_length_le (by omega)]
    simp only [cells_id, this]; exact lits_id _ _ h2
theorem keyOf_mk (k : MKey) (h : MKOK k) : ∃ l, keyOf Try.prog 64 (mkA k) = some l := by
  obtain ⟨n, hn⟩ := types_3
  refine keyOf_ex (by kernel_rfl) (by kernel_rfl) (mkV k) (by rw [mkV_length h, cells_mkey]) ?_
  rw [hn]; exact lits_mkey (n + 1) k h
theorem map_B_inj' : ∀ {a b : List UInt8}, a.map B = b.map B → a = b
  | [], [], _ => rfl
  | x :: a, y :: b, h => by
    simp only [List.map_cons, List.cons.injEq] at h
    have h1 : x = y := b8_inj (by have := h.1; unfold B at this; simpa using this)
    rw [h1, map_B_inj' h.2]
  | [], _ :: _, h => by simp at h
  | _ :: _, [], h => by simp at h
theorem mkA_inj {p q : MKey} (h : mkA p = mkA q) : p = q := by
  unfold mkA at h
  have h2 : mkV p = mkV q := by simpa using h
  unfold mkV at h2
  simp only [List.cons.injEq] at h2
  exact Prod.ext (by simpa using h2.1) (map_B_inj' h2.2)
theorem built_mkey (parts : List (Nat × Value)) : Try.prog.built 64 parts = Instr.fill (fun i => (#[(0, 1), (1, 32)] : Array (Nat × Nat))[i]?) (mkV (0, List.replicate 32 0)).toArray parts := by kernel_rfl
theorem build_mkey {k : MKey} (h : MKOK k) : Try.prog.built 64 [(0, .int .i64 k.1), (1, .agg (k.2.map B).toArray)] = some (mkV k).toArray := by
  have e0 : (k.2.map B).length = 32 := by rw [List.length_map, h.2]
  rw [built_mkey, fill_cons (off := 0) (s := 1) (cs := [.int .i64 k.1]) rfl rfl rfl (by simp [mkV]), fill_cons (off := 1) (s := 32) (cs := k.2.map B) rfl rfl e0 (by simp [mkV, splice]), fill_nil]
  congr 2
  simp [mkV, splice, e0]

end Go.Proofs.Ytofhohofaedokaa

/- Marks' keys as a sort takes them: the contract of marks.compare, and that its order is one. -/
namespace Go.Proofs.Ytofhohofaedokaa
open Go.RowKit Go.Sort
set_option linter.unusedVariables false
def cmpK2 (p q : MKey) : Int := if cmpI p.1 q.1 = 0 then Lib.compareBytes p.2 q.2 else cmpI p.1 q.1
theorem Blk.mkSl {w : World} {g : Nat} {t : TypeId} {p : MKey} (h : Blk w g t (mkV p)) (hl : p.2.length = 32) : Sl w w.heap.size 1 (some ⟨g, 1, none⟩) 32 (p.2.map B) :=
  ⟨by simp [hl], fun _ => ⟨g, 1, rfl, h.lt, fun j u hu => by
    refine h.at_ ?_
    unfold mkV
    rw [Nat.add_comm 1 j, List.getElem?_cons_succ]; exact hu⟩⟩
set_option maxRecDepth 100000 in
theorem mcmpg_any (p q : MKey) (w : World) (hp : p.2.length = 32) (hq : q.2.length = 32) :
    Calls Try.prog 39 #[.agg (mkV p).toArray, .agg (mkV q).toArray] w fun e w' => e = .returned (.int .i64 (cmpK2 p q)) ∧ Gr w w' := by
  obtain ⟨xs, hxs⟩ : ∃ xs, xs = mkV p := ⟨_, rfl⟩
  obtain ⟨ys, hys⟩ : ∃ ys, ys = mkV q := ⟨_, rfl⟩
  obtain ⟨z, hz⟩ : ∃ z, z = cmpK2 p q := ⟨_, rfl⟩
  rw [← hxs, ← hys, ← hz]
  have HZ := Lib.hid hz; clear hz
  have HX := Lib.hid hxs; have HY := Lib.hid hys
  have HP := Lib.hid hp; have HQ := Lib.hid hq
  clear hxs hys hp hq
  go_enter Try.func39, Try.ntmps39
  go_wp2_with (first | (with_reducible refine wpl_boxd (o := ⟨some 2, _, _, _, _, _⟩) rfl rfl rfl ?_))
  intro w1 hb1 hbw1 hsz1 hdw1
  generalize hgd : w.heap.size = g at *
  go_wp2_with (first | (with_reducible refine wpl_boxd (o := ⟨some 3, _, _, _, _, _⟩) rfl rfl rfl ?_))
  intro w2 hb2 hbw2 hsz2 hdw2
  try rw [hsz1] at hb2 hsz2 ⊢
  have H2 := Lib.hid hb2
  have H1 := Lib.hid (hb1.below hbw2 (by omega))
  have HBW := Lib.hid (hbw1.trans (hbw2.mono (by omega)))
  have HSZ := Lib.hid (show g ≤ w2.heap.size by omega)
  have HDW := Lib.hid (show w.drawn ≤ w2.drawn by omega)
  clear hdw1 hdw2
  clear hb1 hb2 hbw1 hbw2 hsz1 hsz2
  generalize hg2 : g + 1 = g2 at *
  have c1 : w2.cell? ⟨g, 0, none⟩ = some (.int .i64 p.1) := H1.out.at_ (by rw [HX.out]; rfl)
  have c2 : w2.cell? ⟨g2, 0, none⟩ = some (.int .i64 q.1) := H2.out.at_ (by rw [HY.out]; rfl)
  have s1 := Lib.hid (Blk.mkSl (p := p) (by rw [← HX.out]; exact H1.out) HP.out)
  have s2 := Lib.hid (Blk.mkSl (p := q) (by rw [← HY.out]; exact H2.out) HQ.out)
  have C1 := Lib.hid c1; have C2 := Lib.hid c2
  have HG := Lib.hid hgd
  clear c1 c2 hgd hg2
  repeat' (first | (with_reducible refine wp_tail (id := 1) 10 (by kernel_rfl) (by kernel_rfl) ?_) | go_values | go_skip | go_guarded | go_step | go_upon | go_back)
  intro w3 hd3
  simp only [List.take_succ_cons, List.take_zero, List.drop_succ_cons, List.drop_zero]
  have c1 := (hd3.cell _).trans C1.out
  have c2 := (hd3.cell _).trans C2.out
  have hbc := bcmp_any _ _ 32 32 32 32 p.2 q.2 w3 (hd3.sl s1.out) (hd3.sl s2.out)
  have hcc := cmpi_any p.1 q.1 w3
  have hoo := fun w => or_two (cmpI p.1 q.1) (Lib.compareBytes p.2 q.2) w
  rw [show (if cmpI p.1 q.1 = 0 then Lib.compareBytes p.2 q.2 else cmpI p.1 q.1) = z from HZ.out.symm] at hoo
  generalize cmpI p.1 q.1 = y at *
  generalize Lib.compareBytes p.2 q.2 = x at *
  have HBC := Lib.hid hbc; have HCC := Lib.hid hcc; have HOO := Lib.hid hoo
  have HB3 := Lib.hid (hd3.below HBW.out)
  have HSZ3 := Lib.hid (show g ≤ w3.heap.size by rw [hd3.size]; exact HSZ.out)
  have HDW3 := Lib.hid (show w.drawn ≤ w3.drawn from Nat.le_trans HDW.out hd3.drawn)
  clear hbc hcc hd3 hoo
  repeat still_step
  still_call (HCC.out.mono fun _ _ ⟨he, hw⟩ => ⟨he, hw.symm⟩)
  repeat still_step
  still_call (HBC.out.mono fun _ _ ⟨he, hw⟩ => ⟨he, hw.symm⟩)
  repeat still_step
  try refine wpStill_nil ?_
  clear c1 c2
  go_wp2_with fail
  refine (HOO.out _).mono ?_
  rintro e w' ⟨rfl, rfl⟩
  go_wp2_with fail
  go_ret
  exact ⟨rfl, Gr.of (by rw [HG.out]; exact HB3.out.alloc HSZ3.out _) HDW3.out⟩
theorem cmpK2_neg (p q : MKey) : cmpK2 q p = - cmpK2 p q := by
  unfold cmpK2
  rw [cb_neg p.2 q.2, cmpI_neg p.1 q.1]
  by_cases h : cmpI p.1 q.1 = 0
  · rw [if_pos h, if_pos (by omega)]
  · rw [if_neg h, if_neg (by omega)]
theorem cmpK2_range (p q : MKey) : -1 ≤ cmpK2 p q ∧ cmpK2 p q ≤ 1 := by
  unfold cmpK2
  have := cb_range p.2 q.2
  have := cmpI_range p.1 q.1
  split <;> omega
theorem cmpI_self (a : Int) : cmpI a a = 0 := by unfold cmpI; simp
theorem cmpK2_zero (p q : MKey) : cmpK2 p q = 0 ↔ p = q := by
  unfold cmpK2
  constructor
  · intro h
    by_cases h1 : cmpI p.1 q.1 = 0
    · rw [if_pos h1] at h
      exact Prod.ext (cmpI_zero _ _ h1) (cb_zero _ _ h)
    · rw [if_neg h1] at h; exact absurd h h1
  · intro h
    subst h
    rw [cmpI_self, if_pos rfl, cb_self]
theorem cmpK2_trans (p q r : MKey) (h1 : cmpK2 p q ≤ 0) (h2 : cmpK2 q r ≤ 0) : cmpK2 p r ≤ 0 := by
  unfold cmpK2 at *
  by_cases g1 : cmpI p.1 q.1 = 0
  · rw [if_pos g1] at h1
    have e := cmpI_zero _ _ g1
    rw [← e] at h2
    by_cases g2 : cmpI p.1 r.1 = 0
    · rw [if_pos g2] at h2 ⊢
      exact cb_trans _ _ _ h1 h2
    · rw [if_neg g2] at h2 ⊢; exact h2
  · rw [if_neg g1] at h1
    by_cases g2 : cmpI q.1 r.1 = 0
    · have e := cmpI_zero _ _ g2
      rw [← e, if_neg g1]; exact h1
    · rw [if_neg g2] at h2
      have h3 := cmpI_trans _ _ _ h1 h2
      by_cases g3 : cmpI p.1 r.1 = 0
      · exfalso
        have e := cmpI_zero _ _ g3
        rw [← e, cmpI_neg p.1 q.1] at h2
        omega
      · rw [if_neg g3]; exact h3
/-- A key. -/
abbrev KeyS := { p : MKey // MKOK p }
instance : Inhabited KeyS := ⟨⟨(0, List.replicate 32 0), by simp [MKOK, I64]⟩⟩
def encKey (p : KeyS) : List Value := mkV p.1
theorem encKey_len (p : KeyS) : (encKey p).length = 33 := mkV_length p.2
theorem encKey_one (p : KeyS) : ∀ v ∈ encKey p, v.oneCell' = true := by
  intro v hv
  unfold encKey mkV at hv
  rcases List.mem_cons.1 hv with hv | hv
  · rw [hv]; rfl
  · obtain ⟨x, _, rfl⟩ := List.mem_map.1 hv; rfl
theorem encKey_inj {p q : KeyS} (h : encKey p = encKey q) : p = q := Subtype.ext (mkA_inj (by unfold mkA; unfold encKey at h; rw [h]))
def cfKey (p q : KeyS) : Int := cmpK2 p.1 q.1
theorem lt_key (p q : KeyS) : ltOf cfKey p q = true ↔ cmpK2 p.1 q.1 = -1 := by
  have := cmpK2_range p.1 q.1
  unfold ltOf cfKey
  rw [decide_eq_true_eq]; omega
theorem nlt_key (p q : KeyS) : ltOf cfKey p q = false ↔ cmpK2 q.1 p.1 ≤ 0 := by
  have h1 := cmpK2_range p.1 q.1
  have h2 := cmpK2_neg p.1 q.1
  unfold ltOf cfKey
  rw [decide_eq_false_iff_not]; omega
theorem swo_key : SWO (ltOf cfKey) where
  irrefl p := by rw [nlt_key]; have := (cmpK2_zero p.1 p.1).2 rfl; omega
  trans x y z h1 h2 := by
    rw [lt_key] at *
    have a1 := cmpK2_trans x.1 y.1 z.1 (by omega) (by omega)
    have a2 := cmpK2_range x.1 z.1
    have a3 : cmpK2 x.1 z.1 ≠ 0 := fun e => by
      have e2 := (cmpK2_zero x.1 z.1).1 e
      rw [← e2] at h2
      have := cmpK2_neg x.1 y.1
      omega
    omega
  ntrans x y z h1 h2 := by
    rw [nlt_key] at *
    exact cmpK2_trans z.1 y.1 x.1 h2 h1
theorem tot_key (x y : KeyS) (h1 : ltOf cfKey x y = false) (h2 : ltOf cfKey y x = false) : x = y := by
  rw [nlt_key] at h1 h2
  have h3 := cmpK2_neg x.1 y.1
  exact Subtype.ext ((cmpK2_zero x.1 y.1).1 (by omega))
theorem lays_key_cmp (blk off size : Nat) (w : World) : CmpLays Try.prog 39 #[] encKey 33 cfKey blk off size w :=
  fun _ _ _ _ x y => mcmpg_any x.1 y.1 _ x.2.2 y.2.2
theorem row_mkey : RowT Try.prog 64 33 := ⟨_, Try.underlying64, by kernel_rfl, by kernel_rfl⟩
theorem info_key : (Try.prog.info? 64).map (fun i => (i.zero, i.size, i.bytes)) = some (some (.agg (encKey default).toArray), 33, 40) := by kernel_rfl
theorem el_key : ElemT Try.prog 66 64 33 40 := elemT Try.underlying66 info_key rfl (by omega)
/-- Sorted. -/
def sortK (l : List KeyS) : List KeyS := l.mergeSort fun x y => !(ltOf cfKey) y x
theorem sortK_len (l : List KeyS) : (sortK l).length = l.length := List.length_mergeSort ..
theorem sortK_perm (l : List KeyS) : (sortK l).Perm l := List.mergeSort_perm ..
end Go.Proofs.Ytofhohofaedokaa

/- slices.AppendSeq(nil, seq), slices.Collect(seq) of marks' keys, against whatever iterator value. Made of IterP. -/
namespace Go.Proofs.Ytofhohofaedokaa
open Go.RowKit Go.Maps Go.Sort Go.Shelf
set_option linter.unusedVariables false
def encKV (p : KeyS) : Value := .agg (encKey p).toArray
theorem encKV_inj {p q : KeyS} (h : encKV p = encKV q) : p = q := encKey_inj (by unfold encKV at h; injection h with h; exact congrArg Array.toList h)
noncomputable def akAs : Code := (((Try.f63.body.map rfOf).getD none).getD (.skip, .skip)).1
noncomputable def akBd : Code := (((Try.f63.body.map rfOf).getD none).getD (.skip, .skip)).2
noncomputable def akRec (fn : FuncId) (sv : Value) (Bs D : Nat) (st : LoopState) (pend : Option Code) : Loop :=
  { state := st, pending := pend, fn, tmps := #[.slice none 0 0, sv, .pointer (some ⟨Bs, 0, none⟩), undef, .slice none 0 0, undef, sv, undef, undef, undef, undef, undef, undef], params := #[7], assign := akAs, body := akBd, defers := D }
structure AkAt (w0 : World) (fn : FuncId) (sv : Value) (Bs l D : Nat) (ss : List KeyS) (W : World) : Prop where
  box : ∃ v, W.heap[Bs]? = some (.cells #[v] 66 (0, 0)) ∧ W.ownsRow w0.heap.size 64 33 v ss.length (ss.flatMap encKey) ∧ (v = .slice none 0 0 ↔ ss = [])
  L : W.heap[l]? = some (.loop (akRec fn sv Bs D .ready none))
  K : W.heap[D]? = some (.deferred (some []))
  below : Below w0.heap.size w0 W
theorem ak_abides (w0 : World) (fn : FuncId) (sv : Value) (Bs l D B : Nat) (hB : w0.heap.size ≤ B) : AbidesFrom B (AkAt w0 fn sv Bs l D) := fun s W W' row h hg hrow => by
  have hrow' : ∀ r, row = some r → ∃ o : Obj, W.heap[r]? = some o ∧ o.isWalk = true := fun r e => (hrow r e).2
  obtain ⟨v, hv, hr, hn⟩ := h.box
  exact ⟨⟨v, (grownBy_keeps hg hrow' hv rfl).trans hv, ownsRow_abides_a hr hg hrow', hn⟩, (grownBy_keeps hg hrow' h.L rfl).trans h.L, (grownBy_keeps hg hrow' h.K rfl).trans h.K,
    h.below.grown hg h.below.size (fun k e => Nat.le_trans hB (hrow k e).1)⟩
theorem info_key2 : ∃ i z, Try.prog.info? 64 = some i ∧ i.zero = some z ∧ i.size = 33 ∧ i.bytes = 40 ∧ z.cells.size = 33 ∧ 0 < 33 := el_key.hi
theorem zero_key : (Try.prog.info? 64).map (·.zero) = some (some (.agg (encKey default).toArray)) := by kernel_rfl
set_option maxRecDepth 100000 in
set_option maxHeartbeats 4000000 in
theorem ak_yield (F : Fence) (m : Nat) (w0 : World) (fn : FuncId) (hfn : F.fn fn) (sv : Value) (Bs l D : Nat) (hBl : Bs ≠ l) (hDl : D ≠ l) (hDB : D ≠ Bs) (h0B : w0.heap.size ≤ Bs) (h0l : w0.heap.size ≤ l)
    (N : Nat) (hN : N ≤ 1000000) (ss : List KeyS) (x : KeyS) (W : World) (h : AkAt w0 fn sv Bs l D ss W) (hlen : ss.length < N) :
    YieldAt F m Try.prog l #[encKV x] W fun e W' => e = .returned (.bool true) ∧ AkAt w0 fn sv Bs l D (ss ++ [x]) W' ∧ KeepsWalks W W' := by
  have hne : (66 : Nat) ≠ 64 := by decide
  obtain ⟨i0, z, hi, hz0, hz1, hz2, hz3, _⟩ := info_key2
  obtain ⟨v, hv, hrow, _⟩ := h.box
  have hml : (1000000 : Nat) ≤ maxLen := by decide
  refine ⟨fn, #[.slice none 0 0, sv, .pointer (some ⟨Bs, 0, none⟩), undef, .slice none 0 0, undef, sv, encKV x, undef, undef, undef, undef, undef], akAs, akBd, by simpa [akRec] using run_yield (P := Try.prog) (args := #[encKV x]) h.L rfl, roundIn_of_wpIn hfn ?_⟩
  have HX := Lib.hid (encKey_len x); have HX1 := Lib.hid (encKey_one x)
  unfold encKV
  obtain ⟨xs, hxs⟩ : ∃ xs, xs = encKey x := ⟨_, rfl⟩
  have HXE := Lib.hid hxs
  rw [← hxs] at HX HX1 ⊢
  have HH := Lib.hid h; have HROW := Lib.hid hrow; have HVV := Lib.hid hv
  have HZP := Lib.hid (encKey_len default)
  clear hxs h hrow hv
  conv => arg 4; whnf
  gi_wp2_with (first | (with_reducible refine wpi_alloc (o := ⟨some 5, _, _, _, _, _⟩) rfl rfl zero_key ?_) | gi_round_op_a)
  intro V1 hb1 hV1
  have hg1 : W.grownBy V1 none := by rw [hV1]; exact World.grownBy_alloc W _ none
  have hkw1 : KeepsWalks W V1 := by rw [hV1]; exact KeepsWalks.alloc _ _
  have HB1 := Lib.hid hb1
  obtain ⟨gv, hgv⟩ : ∃ g, g = W.heap.size := ⟨_, rfl⟩
  rw [← hgv] at HB1 ⊢
  have HGV := Lib.hid hgv
  clear hb1 hV1 hgv
  gi_wp2_with (first | (with_reducible refine wpi_storeb (o := ⟨none, .store _ _ _, _, _, _, _⟩) rfl rfl row_mkey HB1.out rfl rfl HZP.out HX.out HX1.out ?_) | gi_round_op_a)
  intro V2 hb2 hg2 hsz2
  have HB2 := Lib.hid hb2
  have hgW2 : W.grownBy V2 (some W.heap.size) := by rw [← HGV.out]; exact grownBy_trans0 (grownBy_up hg1) hg2
  have hkw2 : KeepsWalks W V2 := hkw1.trans (KeepsWalks.of_grownBy hg2 (fun j o hj ho => by cases hj; rw [HB1.out] at ho; cases ho; rfl))
  clear hb2 hg2 hsz2 hg1 hkw1 HB1
  -- the world behind the assignment: all as it was
  have hold : ∀ {k : Nat} {o : Obj}, W.heap[k]? = some o → V2.heap[k]? = some o := fun {k o} hk => (hgW2.block k (Array.getElem?_eq_some_iff.1 hk).1 (fun e => by injection e with e; have := (Array.getElem?_eq_some_iff.1 hk).1; omega)).trans hk
  have hL0 : V2.heap[l]? = some (.loop (akRec fn sv Bs D .ready none)) := hold HH.out.L
  have hv0 : V2.heap[Bs]? = some (.cells #[v] 66 (0, 0)) := hold HVV.out
  have hK0 : V2.heap[D]? = some (.deferred (some [])) := hold HH.out.K
  have hrow0 : V2.ownsRow w0.heap.size 64 33 v ss.length (ss.flatMap encKey) := own_new HROW.out hgW2 (Nat.le_refl _)
  have hb0 : Below w0.heap.size w0 V2 := HH.out.below.grown hgW2 HH.out.below.size (fun k e => by cases e; exact HH.out.below.size)
  have hl : l < V2.heap.size := (Array.getElem?_eq_some_iff.1 hL0).1
  have hgl : gv ≠ l := fun e => by rw [← e, HB2.out] at hL0; cases hL0
  have hgB : gv ≠ Bs := fun e => by rw [← e, HB2.out] at hv0; injection hv0 with h1; injection h1 with _ h2; exact hne h2.symm
  have hbr := run_beginRound (P := Try.prog) hL0 rfl
  obtain ⟨W2, hW2⟩ : ∃ W2, V2.putObj l (.loop { akRec fn sv Bs D .ready none with state := .busy }) = W2 := ⟨_, rfl⟩
  rw [hW2] at hbr
  have hg2 : V2.grownBy W2 (some l) := by rw [← hW2]; exact grownBy_putObj_a _ _ _
  have hk2 : KeepsWalks V2 W2 := by rw [← hW2]; exact KeepsWalks.putObj _ hL0 rfl
  have hv2 : W2.heap[Bs]? = some (.cells #[v] 66 (0, 0)) := by rw [← hW2]; exact (World.putObj_heap_other hBl).trans hv0
  have hK2 : W2.heap[D]? = some (.deferred (some [])) := by rw [← hW2]; exact (World.putObj_heap_other hDl).trans hK0
  have hL2 : W2.heap[l]? = some (.loop { akRec fn sv Bs D .ready none with state := .busy }) := by rw [← hW2]; exact World.putObj_heap_same hl
  have hrow2 : W2.ownsRow w0.heap.size 64 33 v ss.length (ss.flatMap encKey) := hrow0.kept hg2 (ownsRow_ne_a hrow0 hL0 (fun cur e => by cases e))
  have hb2 : Below w0.heap.size w0 W2 := hb0.grown hg2 hb0.size (fun k e => by cases e; exact h0l)
  have HBV := Lib.hid (show Blk W2 gv 64 xs from HB2.out.grown hg2 (fun e => hgl (Option.some.inj e)))
  have hkW2 : KeepsWalks W W2 := hkw2.trans hk2
  obtain ⟨hc2, hf2⟩ := cell_of_box_a hv2
  have hBlt : Bs < W2.heap.size := (Array.getElem?_eq_some_iff.1 hv2).1
  have hl2 : l < W2.heap.size := (Array.getElem?_eq_some_iff.1 hL2).1
  have hDlt : D < W2.heap.size := (Array.getElem?_eq_some_iff.1 hK2).1
  have HV2 := Lib.hid hv2; have HK2 := Lib.hid hK2; have HL2 := Lib.hid hL2; have HR2 := Lib.hid hrow2; have HBB := Lib.hid hb2; have HKW := Lib.hid hkW2; have HLT := Lib.hid (show Bs < W2.heap.size ∧ l < W2.heap.size ∧ D < W2.heap.size from ⟨hBlt, hl2, hDlt⟩)
  have HNE := Lib.hid (show ∀ (j : Nat) (o : Obj), W2.heap[j]? = some o → (∀ cur, o ≠ .cells cur 64 (0, 0)) → some j ≠ v.ownBlock from fun j o hj hno => by
    rcases ownsRow_ne_a hrow2 hj hno with e | e
    · rw [e]; simp
    · exact fun e' => e e'.symm)
  have HHI := Lib.hid hi; have HHZ := Lib.hid hz0; have HZ1 := Lib.hid hz1; have HZ2 := Lib.hid hz2; have HZ3 := Lib.hid hz3
  have HNEQ := Lib.hid hne
  clear hW2 hold hL0 hv0 hK0 hrow0 hb0 hl hg2 hk2 hv2 hK2 hL2 hrow2 hb2 hkw2 hgW2 HB2 hkW2 hBlt hl2 hDlt hi hz0 hz1 hz2 hz3 hne hgl hgB HVV HROW
  gi_wp2
  clear hbr
  conv => arg 4; whnf
  gi_wp2_with (first | (with_reducible refine wpi_loadb (o := ⟨some 9, _, _, _, _, _⟩) rfl rfl row_mkey HBV.out rfl HX.out ?_) | (refine wpi_row1 (o := ⟨some 10, .buildSlice _ _ _, _, _, _, _⟩) rfl rfl el_key (by first | rfl | (go_simp; done)) HX.out (by omega) ?_) | gi_round_op_a)
  intro W3 hb3 hW3
  have HW3 := Lib.hid hW3
  have hsrc : ∀ (j : Nat) (u : Value), xs[j]? = some u → W3.cell? ((⟨W2.heap.size, 0, none⟩ : Addr).add j) = some u := by rw [hW3]; exact cell_row_new W2 xs 64
  have hrow3 : W3.ownsRow w0.heap.size 64 33 v ss.length (ss.flatMap encKey) := by rw [hW3]; exact HR2.out.alloc _
  have hw3s : W3.heap.size = W2.heap.size + 1 := by rw [hW3]; simp
  have hlow3 : ∀ k, k < W2.heap.size → W3.heap[k]? = W2.heap[k]? := fun k hk => by rw [hW3]; exact Below.heap_alloc _ _ k hk
  have hkw3 : KeepsWalks W2 W3 := by rw [hW3]; exact KeepsWalks.alloc _ _
  have hb30 : Below w0.heap.size w0 W3 := by rw [hW3]; exact HBB.out.alloc HBB.out.size _
  have HSRC := Lib.hid hsrc; have HR3 := Lib.hid hrow3; have HB3 := Lib.hid hb30; have HLOW3 := Lib.hid hlow3; have HKW3 := Lib.hid hkw3; have HS3 := Lib.hid hw3s
  generalize hgx : W2.heap.size = gx at HSRC HLOW3 HS3 ⊢
  have HGX := Lib.hid hgx
  clear hb3 hW3 hsrc hrow3 hb30 hlow3 hkw3 hw3s hgx
  gi_wp2_with (first
    | (gi_at_builtin; refine wpListIn_append_own _ rfl _ _ 66 rfl w0.heap.size 64 i0 z 33 40 Try.underlying66 HHI.out HHZ.out HZ1.out HZ2.out HZ3.out (by decide) v ss.length (ss.flatMap encKey) rfl HR3.out ⟨gx, 0, none⟩ 1 1 xs rfl (by rw [HX.out]) HSRC.out HX1.out (by omega) (by omega) HB3.out.size ?_
       intro v' w3 hown' hg3 hnil3
       have hv3 : w3.heap[Bs]? = some (.cells #[v] 66 (0, 0)) := (hg3.block Bs (by have := HLT.out.1; have := HS3.out; have := HGX.out; omega) (HNE.out _ _ HV2.out (fun cur e => by injection e with _ e2; exact HNEQ.out e2))).trans ((HLOW3.out Bs (by have := HLT.out.1; have := HGX.out; omega)).trans HV2.out)
       obtain ⟨hc3, hf3⟩ := cell_of_box_a hv3
       obtain ⟨g', cap', cur', rfl, hbase', hgb', hr1, hr2, hr3, hr4⟩ : ∃ g' cap' cur', v' = .slice (some ⟨g', 0, none⟩) (ss.length + 1) cap' ∧ w0.heap.size ≤ g' ∧ w3.heap[g']? = some (.cells cur' 64 (0, 0)) ∧ ss.length + 1 ≤ cap' ∧ cap' ≤ maxLen ∧ cur'.size = cap' * 33 ∧ cur'.toList.take ((ss.length + 1) * 33) = ss.flatMap encKey ++ xs := by
         rcases hown'.2 with ⟨_, h0⟩ | h'
         · exact absurd h0 (by omega)
         · exact h'
       go_frame)
    | gi_round_op_a)
  have hg3' : W3.grownBy w3 v.ownBlock := hg3
  have hL3 : w3.heap[l]? = some (.loop { akRec fn sv Bs D .ready none with state := .busy }) := (hg3'.block l (by have := HLT.out.2.1; have := HS3.out; have := HGX.out; omega) (HNE.out _ _ HL2.out (fun cur e => by cases e))).trans ((HLOW3.out l (by have := HLT.out.2.1; have := HGX.out; omega)).trans HL2.out)
  have hK3 : w3.heap[D]? = some (.deferred (some [])) := (hg3'.block D (by have := HLT.out.2.2; have := HS3.out; have := HGX.out; omega) (HNE.out _ _ HK2.out (fun cur e => by cases e))).trans ((HLOW3.out D (by have := HLT.out.2.2; have := HGX.out; omega)).trans HK2.out)
  obtain ⟨w4, hw4⟩ : ∃ w4, w3.setCell ⟨Bs, 0, none⟩ (.slice (some ⟨g', 0, none⟩) (ss.length + 1) cap') = w4 := ⟨_, rfl⟩
  rw [hw4]
  have hg4 : w3.grownBy w4 (some Bs) := by rw [← hw4]; exact grownBy_setCell0_a _ _ _
  have hv4 : w4.heap[Bs]? = some (.cells #[.slice (some ⟨g', 0, none⟩) (ss.length + 1) cap'] 66 (0, 0)) := by rw [← hw4]; exact heap_setCell_box_a _ hv3
  have hL4 : w4.heap[l]? = some (.loop { akRec fn sv Bs D .ready none with state := .busy }) := (hg4.block l (Array.getElem?_eq_some_iff.1 hL3).1 (fun e => hBl (by cases e; rfl))).trans hL3
  have hK4 : w4.heap[D]? = some (.deferred (some [])) := (hg4.block D (Array.getElem?_eq_some_iff.1 hK3).1 (fun e => hDB (by cases e; rfl))).trans hK3
  have hrow4 := hown'.kept hg4 (ownsRow_ne_a hown' hv3 (fun cur e => by injection e with _ e2; exact HNEQ.out e2))
  have hl4 : l < w4.heap.size := (Array.getElem?_eq_some_iff.1 hL4).1
  have hb3 : Below w0.heap.size w0 w3 := HB3.out.grown hg3' HB3.out.size (fun k e => (HR3.out.lt k e).1)
  have hb4 : Below w0.heap.size w0 w4 := hb3.grown hg4 hb3.size (fun k e => by cases e; exact h0B)
  have hk4 : KeepsWalks W w4 := ((HKW.out.trans HKW3.out).trans (KeepsWalks.of_grownBy hg3' (ownsRow_not_walk_a HR3.out))).trans (by rw [← hw4]; exact KeepsWalks.setCell _ _ _)
  clear hw4
  refine ⟨_, _, run_endRound none hL4, rfl, ⟨⟨_, (World.putObj_heap_other hBl).trans hv4, ?_, by simp⟩, World.putObj_heap_same hl4, (World.putObj_heap_other hDl).trans hK4, hb4.grown (grownBy_putObj_a _ _ _) hb4.size (fun k e => by cases e; exact h0l)⟩, hk4.trans (KeepsWalks.putObj _ hL4 rfl)⟩
  have := hrow4.kept (grownBy_putObj_a w4 l (.loop { { akRec fn sv Bs D .ready none with state := .busy } with state := if (none : Option Code).isNone then .ready else .done, pending := none })) (ownsRow_ne_a hrow4 hL4 (fun cur e => by cases e))
  rw [HXE.out] at this
  simpa using this
set_option maxRecDepth 100000 in
set_option maxHeartbeats 2000000 in
theorem ak_in (F : Fence) (n : Nat) (h11 : F.fn 63) (hro : F.round = none) (hn : 2 ≤ n) (g : Nat) (lb : Array Value) (hFg : F.fn g) (eg : ∀ args w, (callFunc g args).run Try.prog w = .ok (.enter g args) w)
    (S : List KeyS → Prop) (N : Nat) (hN : N ≤ 1000000) (w : World) (hseq : SeqGives F (n - 1) Try.prog g lb encKV S N w) :
    CallsIn F n Try.prog 63 #[.slice none 0 0, .func (.func g) #[] lb] w fun e w' => ∃ (v : Value) (ss : List KeyS), e = .returned v ∧ S ss ∧ w'.ownsRow w.heap.size 64 33 v ss.length (ss.flatMap encKey) ∧ (v = .slice none 0 0 ↔ ss = []) ∧ Below w.heap.size w w' := by
  have h1 : 1 ≤ n := by omega
  refine callsIn_of_wp_marks Try.func63 rfl h11 ?_ hro
  simp only [Try.ntmps63, List.size_toArray, List.length_cons, List.length_nil, Nat.reduceAdd, Nat.reduceSub, Array.replicate_succ, Array.replicate_zero, List.push_toArray, List.append_toArray, List.nil_append, List.cons_append]
  gi_wp2
  refine wpIn_rangeFunc ?_
  intro fn hfn
  rw [hro]
  obtain ⟨W0, hW0⟩ : ∃ W0, w.alloc (.cells #[.slice none 0 0] 66) = W0 := ⟨_, rfl⟩
  have hs0 : W0.heap.size = w.heap.size + 1 := by rw [← hW0]; simp
  have hv0 : W0.heap[w.heap.size]? = some (.cells #[.slice none 0 0] 66 (0, 0)) := by rw [← hW0]; exact World.alloc_heap_new w _
  have hb0 : Below w.heap.size w W0 := by rw [← hW0]; exact (Below.refl _ w).alloc (Nat.le_refl _) _
  rw [hW0]
  obtain ⟨W1, hW1⟩ : ∃ W1, (W0.alloc (.deferred (some []))).alloc (.loop (akRec fn (.func (.func g) #[] lb) w.heap.size W0.heap.size .ready none)) = W1 := ⟨_, rfl⟩
  have hold : ∀ k, k < W0.heap.size → W1.heap[k]? = W0.heap[k]? := fun k hk => by
    rw [← hW1]; exact (Below.heap_alloc _ _ k (by simp; omega)).trans (Below.heap_alloc _ _ k hk)
  have hb1 : Below w.heap.size w W1 := by rw [← hW1]; exact (hb0.alloc hb0.size _).alloc (by have := hb0.size; simp; omega) _
  have hs1 : W1.heap.size = W0.heap.size + 2 := by rw [← hW1]; simp
  have hM : AkAt w fn (.func (.func g) #[] lb) w.heap.size (W0.heap.size + 1) W0.heap.size [] W1 :=
    ⟨⟨_, (hold w.heap.size (by omega)).trans hv0, ⟨rfl, .inl ⟨rfl, rfl⟩⟩, by simp⟩,
     by rw [← hW1]; have := World.alloc_heap_new (W0.alloc (.deferred (some []))) (.loop (akRec fn (.func (.func g) #[] lb) w.heap.size W0.heap.size .ready none)); rwa [World.size_alloc] at this,
     by rw [← hW1]; exact (Below.heap_alloc _ _ _ (by simp)).trans (World.alloc_heap_new W0 _), hb1⟩
  refine ⟨W0.heap.size + 1, [{ target := .collected W0.heap.size, args := #[] }], W1, { target := .fn (.func g) lb, args := #[.func (.yield (W0.heap.size + 1)) #[] #[]] }, W1, g,
    #[.func (.yield (W0.heap.size + 1)) #[] #[]] ++ lb, W1, ?_, ?_, ?_, ?_, fun _ => h1, ?_⟩
  · rw [← hW1]; exact run_enterLoop_outer _ _ _ _ _
  · simp [resolve, go_sem]
  · intro f' hf'; simp [Target.leads] at hf'; subst hf'; exact hFg
  · simp [invoke, go_sem, eg]
  · refine (hseq (W0.heap.size + 1) (AkAt w fn (.func (.func g) #[] lb) w.heap.size (W0.heap.size + 1) W0.heap.size) W1 hb1 (ak_abides _ _ _ _ _ _ _ hb1.size)
      (fun pre x W hJ hl => ak_yield F (n - 1 - 1) w fn hfn _ w.heap.size (W0.heap.size + 1) W0.heap.size (by omega) (by omega) (by omega) (Nat.le_refl _) (by omega) N hN pre x W hJ hl) hM).mono ?_
    rintro e W2 ⟨⟨v0, rfl⟩, ss, hS, h2⟩
    obtain ⟨v, hv, hrow, hnil⟩ := h2.box
    have hend := run_endLoop (P := Try.prog) h2.L (by simp [akRec])
    obtain ⟨W3, hW3⟩ : ∃ W3, W2.putObj (W0.heap.size + 1) (.loop { akRec fn (.func (.func g) #[] lb) w.heap.size W0.heap.size .ready none with state := .exhausted }) = W3 := ⟨_, rfl⟩
    rw [hW3] at hend
    have hg3 : W2.grownBy W3 (some (W0.heap.size + 1)) := by rw [← hW3]; exact grownBy_putObj_a _ _ _
    have hv3 : W3.heap[w.heap.size]? = some (.cells #[v] 66 (0, 0)) := by rw [← hW3]; exact (World.putObj_heap_other (by omega)).trans hv
    have hK3 : W3.heap[W0.heap.size]? = some (.deferred (some [])) := by rw [← hW3]; exact (World.putObj_heap_other (by omega)).trans h2.K
    have hrow3 := hrow.kept hg3 (ownsRow_ne_a hrow h2.L (fun cur e => by cases e))
    have hb3 : Below w.heap.size w W3 := h2.below.grown hg3 h2.below.size (fun k e => by cases e; omega)
    obtain ⟨hc3, hf3⟩ := cell_of_box_a hv3
    clear hW3
    refine ⟨none, W3, hend, ?_⟩
    gi_wp2
    rw [← hs0]
    refine ⟨by simp, .inl ⟨_, _, rfl, run_takeDeferred hK3, ?_⟩⟩
    exact ⟨_, results_tmp rfl _ _ _, v, ss, rfl, hS, hrow3.kept (grownBy_putObj_a _ _ _) (ownsRow_ne_a hrow3 hK3 (fun cur e => by cases e)), hnil, hb3.grown (grownBy_putObj_a _ _ _) hb3.size (fun k e => by cases e; omega)⟩
set_option maxRecDepth 100000 in
set_option maxHeartbeats 1000000 in
theorem colk_in (F : Fence) (n : Nat) (h8 : F.fn 52) (h11 : F.fn 63) (hro : F.round = none) (hn : 3 ≤ n) (g : Nat) (lb : Array Value) (hFg : F.fn g) (eg : ∀ args w, (callFunc g args).run Try.prog w = .ok (.enter g args) w)
    (S : List KeyS → Prop) (N : Nat) (hN : N ≤ 1000000) (w : World) (hseq : SeqGives F (n - 1 - 1) Try.prog g lb encKV S N w) :
    CallsIn F n Try.prog 52 #[.func (.func g) #[] lb] w fun e w' => ∃ (v : Value) (ss : List KeyS), e = .returned v ∧ S ss ∧ w'.ownsRow w.heap.size 64 33 v ss.length (ss.flatMap encKey) ∧ (v = .slice none 0 0 ↔ ss = []) ∧ Below w.heap.size w w' := by
  have h1 : 1 ≤ n := by omega
  have e11 : ∀ args w, (callFunc 63 args).run Try.prog w = .ok (.enter 63 args) w := enters_of Try.func63 (by kernel_rfl) rfl
  refine callsIn_of_wp Try.func52 rfl h8 ?_ hro
  simp only [Try.ntmps52, List.size_toArray, List.length_cons, List.length_nil, Nat.reduceAdd, Nat.reduceSub, Array.replicate_succ, Array.replicate_zero, List.push_toArray, List.append_toArray, List.nil_append, List.cons_append]
  gi_wp2_with (gi_at_call 63; refine (ak_in F (n - 1) h11 hro (by omega) g lb hFg eg S N hN _ hseq).mono ?_; rintro e w' ⟨v, ss, rfl, hS, hrow, hnil, hb⟩)
  go_ret
  exact ⟨v, ss, rfl, hS, hrow, hnil, hb⟩
end Go.Proofs.Ytofhohofaedokaa

/- slices.SortFunc laid at KeyS: a row of the call's own is sorted. Printed by mklays.py (the numbers are those of one seat). -/
namespace Go.Proofs.Ytofhohofaedokaa
open Go.RowKit Go.Sort Go.Shelf
set_option linter.unusedVariables false
def lays_key_ren : Go.Shelf.Ren := ⟨fun | 6 => 53 | 15 => 65 | 14 => 64 | 28 => 77 | 29 => 78 | 20 => 69 | 21 => 70 | 22 => 71 | 23 => 72 | 24 => 73 | 25 => 74 | 26 => 75 | 27 => 76 | 46 => 79 | 47 => 80 | 48 => 81 | 49 => 82 | 50 => 83 | 57 => 84 | n => n, fun | 22 => 66 | 24 => 64 | 25 => 89 | 3 => 3 | 39 => 106 | 0 => 0 | 53 => 129 | 55 => 29 | 4 => 4 | 46 => 122 | 45 => 121 | 50 => 126 | 5 => 5 | 9 => 9 | 66 => 131 | 70 => 135 | 76 => 137 | 77 => 138 | n => n, fun | n => n⟩
theorem lays_key : Go.Proofs.SlLaysF0.n6 Try.prog lays_key_ren := {
  mixed := by kernel_rfl,
  f6 := ⟨Try.f53.name, by decide, Try.func53.trans (congrArg some (by kernel_rfl))⟩,
  f14 := ⟨Try.f64.name, by decide, Try.func64.trans (congrArg some (by kernel_rfl))⟩,
  f15 := Try.func65.trans (congrArg some (by kernel_rfl)),
  f20 := ⟨Try.f69.name, by decide, Try.func69.trans (congrArg some (by kernel_rfl))⟩,
  f21 := ⟨Try.f70.name, by decide, Try.func70.trans (congrArg some (by kernel_rfl))⟩,
  f22 := ⟨Try.f71.name, by decide, Try.func71.trans (congrArg some (by kernel_rfl))⟩,
  f23 := ⟨Try.f72.name, by decide, Try.func72.trans (congrArg some (by kernel_rfl))⟩,
  f24 := ⟨Try.f73.name, by decide, Try.func73.trans (congrArg some (by kernel_rfl))⟩,
  f25 := ⟨Try.f74.name, by decide, Try.func74.trans (congrArg some (by kernel_rfl))⟩,
  f26 := ⟨Try.f75.name, by decide, Try.func75.trans (congrArg some (by kernel_rfl))⟩,
  f27 := ⟨Try.f76.name, by decide, Try.func76.trans (congrArg some (by kernel_rfl))⟩,
  f28 := Try.func77.trans (congrArg some (by kernel_rfl)),
  f29 := Try.func78.trans (congrArg some (by kernel_rfl)),
  f46 := ⟨Try.f79.name, by decide, Try.func79.trans (congrArg some (by kernel_rfl))⟩,
  f47 := Try.func80.trans (congrArg some (by kernel_rfl)),
  f48 := Try.func81.trans (congrArg some (by kernel_rfl)),
  f49 := ⟨Try.f82.name, by decide, Try.func82.trans (congrArg some (by kernel_rfl))⟩,
  f50 := ⟨Try.f83.name, by decide, Try.func83.trans (congrArg some (by kernel_rfl))⟩,
  f57 := ⟨Try.f84.name, by decide, Try.func84.trans (congrArg some (by kernel_rfl))⟩,
  t0 := Try.underlying0,
  a0 := Try.isAgg0,
  z0 := Try.sizeOf0,
  v0 := Try.zeroValue0,
  t3 := Try.underlying3,
  a3 := Try.isAgg3,
  z3 := Try.sizeOf3,
  v3 := Try.zeroValue3,
  t4 := Try.underlying4,
  a4 := Try.isAgg4,
  z4 := Try.sizeOf4,
  v4 := Try.zeroValue4,
  t5 := Try.underlying5,
  a5 := Try.isAgg5,
  z5 := Try.sizeOf5,
  v5 := Try.zeroValue5,
  t9 := Try.underlying9,
  a9 := Try.isAgg9,
  z9 := Try.sizeOf9,
  v9 := Try.zeroValue9,
  t22 := Try.underlying66,
  a22 := Try.isAgg66,
  z22 := Try.sizeOf66,
  v22 := Try.zeroValue66,
  t25 := Try.underlying89,
  a25 := Try.isAgg89,
  z25 := Try.sizeOf89,
  v25 := Try.zeroValue89,
  t39 := Try.underlying106,
  a39 := Try.isAgg106,
  z39 := Try.sizeOf106,
  v39 := Try.zeroValue106,
  t45 := Try.underlying121,
  a45 := Try.isAgg121,
  z45 := Try.sizeOf121,
  v45 := Try.zeroValue121,
  t46 := Try.underlying122,
  a46 := Try.isAgg122,
  z46 := Try.sizeOf122,
  v46 := Try.zeroValue122,
  t50 := Try.underlying126,
  a50 := Try.isAgg126,
  z50 := Try.sizeOf126,
  v50 := Try.zeroValue126,
  t53 := Try.underlying129,
  a53 := Try.isAgg129,
  z53 := Try.sizeOf129,
  v53 := Try.zeroValue129,
  t55 := Try.underlying29,
  a55 := Try.isAgg29,
  z55 := Try.sizeOf29,
  v55 := Try.zeroValue29,
  t66 := Try.underlying131,
  a66 := Try.isAgg131,
  z66 := Try.sizeOf131,
  v66 := Try.zeroValue131,
  t70 := Try.underlying135,
  a70 := Try.isAgg135,
  z70 := Try.sizeOf135,
  v70 := Try.zeroValue135,
  t76 := Try.underlying137,
  a76 := Try.isAgg137,
  z76 := Try.sizeOf137,
  v76 := Try.zeroValue137,
  t77 := Try.underlying138,
  a77 := Try.isAgg138,
  z77 := Try.sizeOf138,
  v77 := Try.zeroValue138 }
theorem sort_key {base g cap : Nat} {ss : List KeyS} (w : World) (hn : ss.length < 4611686018427387904) (ho : w.ownsRow base 64 33 (.slice (some ⟨g, 0, none⟩) ss.length cap) ss.length (ss.flatMap encKey)) :
    Calls Try.prog 53 #[.slice (some ⟨g, 0, none⟩) ss.length cap, .func (.func 39) #[] #[]] w fun e w' => e = .returned (.tuple #[]) ∧ w'.ownsRow base 64 33 (.slice (some ⟨g, 0, none⟩) ss.length cap) ss.length ((sortK ss).flatMap encKey) ∧ w.grownBy w' (some g) := by
  rcases ho.2 with ⟨h1, h2⟩ | ⟨gb, cap', cur, h1, hbase, hgb, r1, r2, r3, r4⟩
  · cases h1
  · injection h1 with h1 h2 h3
    injection h1 with h1
    injection h1 with h1
    subst h1 h3
    have hH : HoldsK encKey 33 w g 0 ss.toArray := holdsK_of_own encKey 33 (by omega) encKey_len hgb r4
    have hsz : ss.toArray.size < 4611686018427387904 := by rw [List.size_toArray]; exact hn
    have h := AnyQ.slices_SortFunc_total lays_key 33 Try.isAgg64 Try.sizeOf64 encKey encKey_len encKey_one cfKey swo_key 39 #[] g 0 cap ss.toArray w (enters_of Try.func39 (by kernel_rfl) rfl) (lays_key_cmp g 0 ss.toArray.size w) hH (Array.getElem?_eq_some_iff.1 hgb).1 hsz tot_key
    rw [List.size_toArray] at h
    refine Calls.mono h ?_
    rintro e w' ⟨rfl, n, os, rfl⟩
    refine ⟨rfl, ?_, grownBy_sortedK _ _ _⟩
    exact ownsRow_sortedK encKey 33 (by omega) encKey_len (sortK_len ss) hbase hgb r1 r2 r3
theorem sort_key_none (p : Option Addr) (cap : Nat) (fv : Value) (w : World) : Calls Try.prog 53 #[.slice p 0 cap, fv] w fun e w' => e = .returned (.tuple #[]) ∧ w' = w :=
  AnyF.slices_SortFunc_none lays_key p cap fv w
end Go.Proofs.Ytofhohofaedokaa

/- slices.SortFunc laid at PtS: a row of the call's own is sorted. Printed by mklays.py (the numbers are those of one seat). -/
namespace Go.Proofs.Ytofhohofaedokaa
open Go.RowKit Go.Sort Go.Shelf
set_option linter.unusedVariables false
end Go.Proofs.Ytofhohofaedokaa

/- slices.SortedFunc(seq, compare), against whatever iterator value; what a map's key is. Printed by mkkeys.py. -/
namespace Go.Proofs.Ytofhohofaedokaa
open Go.RowKit Go.Maps Go.Sort Go.Shelf
set_option linter.unusedVariables false
theorem grownBy_drop {a b : World} {q : Nat} (h : a.grownBy b (some q)) (hq : a.heap.size ≤ q) : a.grownBy b none := ⟨h.os, h.tape, h.output, h.size, fun k hk _ => h.block k hk (fun e => by injection e with e; omega)⟩
noncomputable def decP (v : Value) : PtS := Classical.epsilon fun p => encPV p = v
theorem decP_enc (p : PtS) : decP (encPV p) = p := encPV_inj (Classical.epsilon_spec (p := fun q => encPV q = encPV p) ⟨p, rfl⟩)
noncomputable def dkP (en : MapEntry) : PtS := decP en.key
theorem sortP_eq {a b : List PtS} (h : a.Perm b) : sortP a = sortP b := by
  have tr : ∀ x y z : PtS, (!(ltOf cfPt) y x) = true → (!(ltOf cfPt) z y) = true → (!(ltOf cfPt) z x) = true := fun x y z h1 h2 => by
    simp only [Bool.not_eq_true'] at *
    exact swo_pt.ntrans z y x h2 h1
  have to : ∀ x y : PtS, ((!(ltOf cfPt) y x) || (!(ltOf cfPt) x y)) = true := fun x y => by
    by_cases hc : ltOf cfPt y x = true
    · have : ltOf cfPt x y = false := by
        cases hh : ltOf cfPt x y with
        | false => rfl
        | true => have := swo_pt.trans y x y hc hh; rw [swo_pt.irrefl] at this; cases this
      simp [hc, this]
    · simp [Bool.not_eq_true _ ▸ hc]
  unfold sortP
  refine List.Perm.eq_of_pairwise (le := fun x y => (!(ltOf cfPt) y x) = true) (fun x y _ _ h1 h2 => ?_) (List.pairwise_mergeSort tr to a) (List.pairwise_mergeSort tr to b) (((List.mergeSort_perm a _).trans h).trans (List.mergeSort_perm b _).symm)
  simp only [Bool.not_eq_true'] at h1 h2
  exact tot_pt x y h2 h1
end Go.Proofs.Ytofhohofaedokaa

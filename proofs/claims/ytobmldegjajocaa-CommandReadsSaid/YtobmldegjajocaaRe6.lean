/- Contracts of entry.Right and header.Right. -/
import Derived.Test.YtobmldegjajocaaRe5
import Derived.Laws.IdiomCopy
import Derived.Lib.Strings
import Derived.Lib.BitFns
set_option linter.unusedSimpArgs false
set_option linter.unusedVariables false
set_option maxRecDepth 100000
set_option maxHeartbeats 16000000
namespace Go.Proofs.Ytobmldegjajocaa
open Go.RowKit
structure Ent where
 kind : Int
 shard : Int
 tx : List UInt8
 amount : Int
 why : Int
 epoch : Int
structure Hdr where
 shard : Int
 height : Int
 epoch : Int
 prev : List UInt8
 root : List UInt8
def I64 (n : Int) : Prop := -9223372036854775808 ≤ n ∧ n ≤ 9223372036854775807
def U64 (n : Int) : Prop := 0 ≤ n ∧ n ≤ 18446744073709551615
theorem I64.wf {n : Int} (h : I64 n) : (Lit.int .i64 n).wf = true := by unfold I64 at h; simp [Lit.wf, IntKind.min, IntKind.max, IntKind.signed, IntKind.bits]; omega
theorem U64.wf {n : Int} (h : U64 n) : (Lit.int .u64 n).wf = true := by unfold U64 at h; simp [Lit.wf, IntKind.min, IntKind.max, IntKind.signed, IntKind.bits]; omega
def Ent.ok (e : Ent) : Prop := I64 e.kind ∧ I64 e.shard ∧ e.tx.length = 32 ∧ U64 e.amount ∧ I64 e.why ∧ I64 e.epoch
def Hdr.ok (h : Hdr) : Prop := I64 h.shard ∧ I64 h.height ∧ I64 h.epoch ∧ h.prev.length = 32 ∧ h.root.length = 32
def entV (e : Ent) : List Value := .int .i64 e.kind :: .int .i64 e.shard :: (e.tx.map B ++ [.int .u64 e.amount, .int .i64 e.why, .int .i64 e.epoch])
def hdrV (h : Hdr) : List Value := .int .i64 h.shard :: .int .i64 h.height :: .int .i64 h.epoch :: (h.prev.map B ++ h.root.map B)
theorem entV_length {e : Ent} (h : e.ok) : (entV e).length = 37 := by simp [entV, h.2.2.1]
theorem hdrV_length {e : Hdr} (h : e.ok) : (hdrV e).length = 67 := by simp [hdrV, h.2.2.2.1, h.2.2.2.2]
def noEnt : Ent := ⟨0, 0, List.replicate 32 0, 0, 0, 0⟩
def noHdr : Hdr := ⟨0, 0, 0, List.replicate 32 0, List.replicate 32 0⟩
theorem noEnt_ok : noEnt.ok := by simp [noEnt, Ent.ok, I64, U64]
theorem noHdr_ok : noHdr.ok := by simp [noHdr, Hdr.ok, I64]
theorem cells_entry : Try.prog.cellsOf 54 = 37 := by kernel_rfl
theorem cells_header : Try.prog.cellsOf 57 = 67 := by kernel_rfl
theorem laid_out' : laidOutB Try.prog = true := by kernel_rfl
theorem key_entry : WideMaps.KeyLaw Try.prog 54 := deep_law_laid laid_out' (m := 3) (by omega) (of_decide_eq_true (by kernel_rfl)) (by kernel_rfl) (by kernel_rfl)
theorem key_header : WideMaps.KeyLaw Try.prog 57 := deep_law_laid laid_out' (m := 3) (by omega) (of_decide_eq_true (by kernel_rfl)) (by kernel_rfl) (by kernel_rfl)
theorem row_entry : RowT Try.prog 54 37 := ⟨_, Try.underlying54, by kernel_rfl, by kernel_rfl⟩
theorem row_header : RowT Try.prog 57 67 := ⟨_, Try.underlying57, by kernel_rfl, by kernel_rfl⟩
theorem types_3 : ∃ n, Try.prog.types.size + 1 = n + 4 := ⟨Try.prog.types.size - 3, by kernel_rfl⟩
theorem lits_id (d : Nat) (ds : List UInt8) (h : ds.length = 32) : ∃ l, Try.prog.keyLits (d + 2) 29 (ds.map B) = some l :=
 kl_bytes Try.underlying29 Try.underlying5 cells_u8 cells_id d ds h
theorem lits_ent (d : Nat) (e : Ent) (h : e.ok) : ∃ l, Try.prog.keyLits (d + 3) 54 (entV e) = some l := by
 refine kl_struct Try.underlying54 _ _ (by rw [entV_length h, cells_entry]) (by kernel_rfl) ?_;obtain ⟨h1, h2, h3, h4, h5, h6⟩ := h;have e0 : (e.tx.map B).length = 32 := by rw [List.length_map, h3]
 intro f hf;simp only [List.mem_cons, List.not_mem_nil, or_false] at hf;rcases hf with rfl | rfl | rfl | rfl | rfl | rfl
 ·simp only [cells_int]; exact kl_int Try.underlying3 _ _ h1.wf
 ·simp only [cells_int]; exact kl_int Try.underlying3 _ _ h2.wf
 ·have : List.take 32 (List.drop 2 (entV e)) = e.tx.map B := by unfold entV; rw [List.drop_succ_cons, List.drop_succ_cons, List.drop_zero, List.take_append_of_le_length (by omega), List.take_of_length_le (by omega)]
  simp only [cells_id, this]; exact lits_id _ _ h3
 ·have : List.take 1 (List.drop 34 (entV e)) = [.int .u64 e.amount] := by
   unfold entV; rw [List.drop_succ_cons, List.drop_succ_cons, List.drop_append_of_le_length (by omega), List.drop_of_length_le (by omega)]; rfl
  simp only [cells_u64, this]; exact kl_int Try.underlying24 _ _ h4.wf
 ·have : List.take 1 (List.drop 35 (entV e)) = [.int .i64 e.why] := by
   unfold entV; rw [List.drop_succ_cons, List.drop_succ_cons, List.drop_append, e0, List.drop_of_length_le (by omega)]; rfl
  simp only [cells_int, this]; exact kl_int Try.underlying3 _ _ h5.wf
 ·have : List.take 1 (List.drop 36 (entV e)) = [.int .i64 e.epoch] := by
   unfold entV; rw [List.drop_succ_cons, List.drop_succ_cons, List.drop_append, e0, List.drop_of_length_le (by omega)]; rfl
  simp only [cells_int, this]; exact kl_int Try.underlying3 _ _ h6.wf
theorem lits_hdr (d : Nat) (e : Hdr) (h : e.ok) : ∃ l, Try.prog.keyLits (d + 3) 57 (hdrV e) = some l := by
 refine kl_struct Try.underlying57 _ _ (by rw [hdrV_length h, cells_header]) (by kernel_rfl) ?_;obtain ⟨h1, h2, h3, h4, h5⟩ := h;have e0 : (e.prev.map B).length = 32 := by rw [List.length_map, h4]
 have e1 : (e.root.map B).length = 32 := by rw [List.length_map, h5]
 intro f hf;simp only [List.mem_cons, List.not_mem_nil, or_false] at hf;rcases hf with rfl | rfl | rfl | rfl | rfl
 ·simp only [cells_int]; exact kl_int Try.underlying3 _ _ h1.wf
 ·simp only [cells_int]; exact kl_int Try.underlying3 _ _ h2.wf
 ·simp only [cells_int]; exact kl_int Try.underlying3 _ _ h3.wf
 ·have : List.take 32 (List.drop 3 (hdrV e)) = e.prev.map B := by unfold hdrV; rw [List.drop_succ_cons, List.drop_succ_cons, List.drop_succ_cons, List.drop_zero, List.take_append_of_le_length (by omega), List.take_of_length_le (by omega)]
  simp only [cells_id, this]; exact lits_id _ _ h4
 ·have : List.take 32 (List.drop 35 (hdrV e)) = e.root.map B := by
   unfold hdrV; rw [List.drop_succ_cons, List.drop_succ_cons, List.drop_succ_cons, List.drop_append_of_le_length (by omega), List.drop_of_length_le (by omega), List.nil_append, List.take_of_length_le (by omega)]
  simp only [cells_id, this]; exact lits_id _ _ h5
theorem ewithin_any (n lo hi : Int) (w : World) : Calls Try.prog 114 #[.int .i64 n, .int .i64 lo, .int .i64 hi] w fun e w' => e = .returned (.bool (decide (lo ≤ n) && decide (n ≤ hi))) ∧ w = w' := by
 by_cases h : lo ≤ n
 ·rw [show decide (lo ≤ n) = true by simpa using h, Bool.true_and]
  go_enter Try.func114, Try.ntmps114
  go_wp2
  go_ret
  exact ⟨rfl, rfl⟩
 ·rw [show decide (lo ≤ n) = false by simpa using h, Bool.false_and];have h2 : decide (lo ≤ n) = false := by simpa using h
  go_enter Try.func114, Try.ntmps114
  go_wp2
  go_ret
  exact ⟨rfl, rfl⟩
theorem hwithin_any (n lo hi : Int) (w : World) : Calls Try.prog 115 #[.int .i64 n, .int .i64 lo, .int .i64 hi] w fun e w' => e = .returned (.bool (decide (lo ≤ n) && decide (n ≤ hi))) ∧ w = w' := by
 by_cases h : lo ≤ n
 ·rw [show decide (lo ≤ n) = true by simpa using h, Bool.true_and]
  go_enter Try.func115, Try.ntmps115
  go_wp2
  go_ret
  exact ⟨rfl, rfl⟩
 ·rw [show decide (lo ≤ n) = false by simpa using h, Bool.false_and];have h2 : decide (lo ≤ n) = false := by simpa using h
  go_enter Try.func115, Try.ntmps115
  go_wp2
  go_ret
  exact ⟨rfl, rfl⟩
def inB (n lo hi : Int) : Bool := decide (lo ≤ n) && decide (n ≤ hi)
def rightE (e : Ent) : Bool := inB e.kind 1 3 && inB e.shard 0 63 && decide (e.amount ≤ 4611686018427387904) && inB e.why 0 63 && inB e.epoch 0 1099511627776
def rightH (h : Hdr) : Bool := inB h.shard 0 63 && inB h.height 1 1099511627776 && inB h.epoch 0 1099511627776
def zeroEnt : Array Value := #[.int .i64 0, .int .i64 0, .int .u8 0, .int .u8 0, .int .u8 0, .int .u8 0, .int .u8 0, .int .u8 0, .int .u8 0, .int .u8 0, .int .u8 0, .int .u8 0, .int .u8 0, .int .u8 0, .int .u8 0, .int .u8 0, .int .u8 0, .int .u8 0, .int .u8 0, .int .u8 0, .int .u8 0, .int .u8 0, .int .u8 0, .int .u8 0, .int .u8 0, .int .u8 0, .int .u8 0, .int .u8 0, .int .u8 0, .int .u8 0, .int .u8 0, .int .u8 0, .int .u8 0, .int .u8 0, .int .u64 0, .int .i64 0, .int .i64 0]
def zeroHdr : Array Value := #[.int .i64 0, .int .i64 0, .int .i64 0, .int .u8 0, .int .u8 0, .int .u8 0, .int .u8 0, .int .u8 0, .int .u8 0, .int .u8 0, .int .u8 0, .int .u8 0, .int .u8 0, .int .u8 0, .int .u8 0, .int .u8 0, .int .u8 0, .int .u8 0, .int .u8 0, .int .u8 0, .int .u8 0, .int .u8 0, .int .u8 0, .int .u8 0, .int .u8 0, .int .u8 0, .int .u8 0, .int .u8 0, .int .u8 0, .int .u8 0, .int .u8 0, .int .u8 0, .int .u8 0, .int .u8 0, .int .u8 0, .int .u8 0, .int .u8 0, .int .u8 0, .int .u8 0, .int .u8 0, .int .u8 0, .int .u8 0, .int .u8 0, .int .u8 0, .int .u8 0, .int .u8 0, .int .u8 0, .int .u8 0, .int .u8 0, .int .u8 0, .int .u8 0, .int .u8 0, .int .u8 0, .int .u8 0, .int .u8 0, .int .u8 0, .int .u8 0, .int .u8 0, .int .u8 0, .int .u8 0, .int .u8 0, .int .u8 0, .int .u8 0, .int .u8 0, .int .u8 0, .int .u8 0, .int .u8 0]
theorem zeroEnt_eq : (entV noEnt).toArray = zeroEnt := rfl
theorem zeroHdr_eq : (hdrV noHdr).toArray = zeroHdr := rfl
theorem ent_at {e : Ent} (h : e.ok) : (entV e)[0]? = some (.int .i64 e.kind) ∧ (entV e)[1]? = some (.int .i64 e.shard) ∧ (entV e)[34]? = some (.int .u64 e.amount) ∧ (entV e)[35]? = some (.int .i64 e.why) ∧ (entV e)[36]? = some (.int .i64 e.epoch) := by
 have e0 : (e.tx.map B).length = 32 := by rw [List.length_map, h.2.2.1]
 refine ⟨rfl, rfl, ?_, ?_, ?_⟩
 all_goals
  unfold entV;rw [List.getElem?_cons_succ, List.getElem?_cons_succ, List.getElem?_append_right (by omega), e0]
  rfl
theorem eright_any (e : Ent) (w : World) (h : e.ok) : Calls Try.prog 100 #[.agg (entV e).toArray] w fun en w' => en = .returned (.bool (rightE e)) ∧ Below w.heap.size w w' := by
 obtain ⟨n4, hn4⟩ := types_3;obtain ⟨r, hr, hq⟩ := eql_deep key_entry (m := 3) (by omega) (by kernel_rfl) (by kernel_rfl) (by kernel_rfl) (entV e) (entV noEnt) (by rw [entV_length h, cells_entry]) (by rw [entV_length noEnt_ok, cells_entry]) (by rw [hn4]; exact lits_ent (n4 + 1) e h) (by rw [hn4]; exact lits_ent (n4 + 1) noEnt noEnt_ok);rw [zeroEnt_eq] at hq;unfold zeroEnt at hq
 have hz : r = true → rightE e = false := by
  intro h1;have h2 := hr.1 h1
  have h3 : e.kind = 0 := by
   have := congrArg List.head? h2;simpa [entV, noEnt] using this
  unfold rightE inB;rw [h3]; rfl
 obtain ⟨a1, a2, a3, a4, a5⟩ := ent_at h;have HL := kp (entV_length h);obtain ⟨xs, hxs⟩ := xe (entV e);rw [← hxs] at hq a1 a2 a3 a4 a5 HL ⊢;have HZ := kp hz;have A1 := kp a1; have A2 := kp a2; have A3 := kp a3; have A4 := kp a4; have A5 := kp a5;obtain ⟨res, hres⟩ := xe (rightE e);rw [← hres];have HRES := kp hres;obtain ⟨g, hg⟩ := xe w.heap.size;have HG := kp hg;clear hz a1 a2 a3 a4 a5 hr hxs hres hg h hn4
 go_enter Try.func100, Try.ntmps100
 go_wp2_with (with_reducible refine wbx 1 ?_);intro w1 hb1 hbw1 hsz1;rw [← HG.o] at hb1 hbw1 hsz1 ⊢;have H1 := kp hb1;have HB := kp hbw1;clear hb1 hbw1 hsz1;have c0 := H1.o.at_ A1.o;have c1 := H1.o.at_ A2.o;have c2 := H1.o.at_ A3.o;have c3 := H1.o.at_ A4.o;have c4 := H1.o.at_ A5.o;have w1' := fun w => ewithin_any e.kind 1 3 w
 have w2' := fun w => ewithin_any e.shard 0 63 w
 have w4' := fun w => ewithin_any e.why 0 63 w
 have w5' := fun w => ewithin_any e.epoch 0 1099511627776 w
 have HRE : Hid (res = (inB e.kind 1 3 && inB e.shard 0 63 && decide (e.amount ≤ 4611686018427387904) && inB e.why 0 63 && inB e.epoch 0 1099511627776)) := HRES;obtain ⟨b1, hb1⟩ := xe (inB e.kind 1 3);obtain ⟨b2, hb2⟩ := xe (inB e.shard 0 63);obtain ⟨b4, hb4⟩ := xe (inB e.why 0 63);obtain ⟨b5, hb5⟩ := xe (inB e.epoch 0 1099511627776);rw [← hb1, ← hb2, ← hb4, ← hb5] at HRE;have W1 := kq (∀ w, Calls Try.prog 114 #[.int .i64 e.kind, .int .i64 1, .int .i64 3] w fun en w' => en = .returned (.bool b1) ∧ w = w') (by rw [hb1]; exact w1');have W2 := kq (∀ w, Calls Try.prog 114 #[.int .i64 e.shard, .int .i64 0, .int .i64 63] w fun en w' => en = .returned (.bool b2) ∧ w = w') (by rw [hb2]; exact w2');have W4 := kq (∀ w, Calls Try.prog 114 #[.int .i64 e.why, .int .i64 0, .int .i64 63] w fun en w' => en = .returned (.bool b4) ∧ w = w') (by rw [hb4]; exact w4');have W5 := kq (∀ w, Calls Try.prog 114 #[.int .i64 e.epoch, .int .i64 0, .int .i64 1099511627776] w fun en w' => en = .returned (.bool b5) ∧ w = w') (by rw [hb5]; exact w5');clear hb1 hb2 hb4 hb5 w1' w2' w4' w5';generalize e.kind = k1 at *;generalize e.shard = k2 at *;generalize e.amount = k3 at *;generalize e.why = k4 at *;generalize e.epoch = k5 at *;cases r
 ·clear HZ HRES;cases b1
  ·go_wp2_with (with_reducible refine wlb 3 row_entry H1.o HL.o ?_);go_wp2_with fail;refine (W1.o _).mono ?_;rintro e w_ ⟨rfl, rfl⟩;go_wp2_with fail;go_ret
   exact ⟨ret_bool (by rw [HRE.o]; rfl), by rw [← HG.o]; exact HB.o⟩
  cases b2
  ·go_wp2_with (with_reducible refine wlb 3 row_entry H1.o HL.o ?_);go_wp2_with fail;refine (W1.o _).mono ?_;rintro e w_ ⟨rfl, rfl⟩;go_wp2_with fail;refine (W2.o _).mono ?_;rintro e w_ ⟨rfl, rfl⟩;go_wp2_with fail;go_ret
   exact ⟨ret_bool (by rw [HRE.o]; rfl), by rw [← HG.o]; exact HB.o⟩
  by_cases h3 : k3 ≤ 4611686018427387904
  ·have d3 : decide (k3 ≤ 4611686018427387904) = true := by simpa using h3
   rw [d3] at HRE;cases b4
   ·go_wp2_with (with_reducible refine wlb 3 row_entry H1.o HL.o ?_);go_wp2_with fail;refine (W1.o _).mono ?_;rintro e w_ ⟨rfl, rfl⟩;go_wp2_with fail;refine (W2.o _).mono ?_;rintro e w_ ⟨rfl, rfl⟩;go_wp2_with fail;refine (W4.o _).mono ?_;rintro e w_ ⟨rfl, rfl⟩;go_wp2_with fail;go_ret
    exact ⟨ret_bool (by rw [HRE.o]; rfl), by rw [← HG.o]; exact HB.o⟩
   ·go_wp2_with (with_reducible refine wlb 3 row_entry H1.o HL.o ?_);go_wp2_with fail;refine (W1.o _).mono ?_;rintro e w_ ⟨rfl, rfl⟩;go_wp2_with fail;refine (W2.o _).mono ?_;rintro e w_ ⟨rfl, rfl⟩;go_wp2_with fail;refine (W4.o _).mono ?_;rintro e w_ ⟨rfl, rfl⟩;go_wp2_with fail;refine (W5.o _).mono ?_;rintro e w_ ⟨rfl, rfl⟩;go_wp2_with fail;go_ret
    exact ⟨ret_bool (by rw [HRE.o]; simp), by rw [← HG.o]; exact HB.o⟩
  ·have d3 : decide (k3 ≤ 4611686018427387904) = false := by simpa using h3
   rw [d3] at HRE;go_wp2_with (with_reducible refine wlb 3 row_entry H1.o HL.o ?_);go_wp2_with fail;refine (W1.o _).mono ?_;rintro e w_ ⟨rfl, rfl⟩;go_wp2_with fail;refine (W2.o _).mono ?_;rintro e w_ ⟨rfl, rfl⟩;go_wp2_with fail;go_ret
   exact ⟨ret_bool (by rw [HRE.o]; simp), by rw [← HG.o]; exact HB.o⟩
 ·have hf : res = false := HRES.o.trans (by simpa using HZ.o);have HF := kp hf;clear hf;go_wp2_with (with_reducible refine wlb 3 row_entry H1.o HL.o ?_);go_ret
  exact ⟨ret_bool (by rw [HF.o]), by rw [← HG.o]; exact HB.o⟩
theorem zeroV_of {P : Program} {t : TypeId} {zs : Array Value} (h : (P.info? t).map (·.zero) = some (some (.agg zs))) (w : World) : (zeroValue t).run P w = .ok (.agg zs) w := by
 obtain ⟨i, hi, hz⟩ := Option.map_eq_some_iff.1 h;simp [zeroValue, typeInfo, hi, hz]
theorem zero_hdr : (Try.prog.info? 57).map (·.zero) = some (some (.agg zeroHdr)) := by kernel_rfl
theorem hdr_at {e : Hdr} (h : e.ok) : (hdrV e)[0]? = some (.int .i64 e.shard) ∧ (hdrV e)[1]? = some (.int .i64 e.height) ∧ (hdrV e)[2]? = some (.int .i64 e.epoch) := ⟨rfl, rfl, rfl⟩
theorem hright_any (e : Hdr) (w : World) (h : e.ok) : Calls Try.prog 101 #[.agg (hdrV e).toArray] w fun en w' => en = .returned (.bool (rightH e)) ∧ Below w.heap.size w w' := by
 obtain ⟨n4, hn4⟩ := types_3;obtain ⟨r, hr, hq⟩ := eql_deep key_header (m := 3) (by omega) (by kernel_rfl) (by kernel_rfl) (by kernel_rfl) (hdrV e) (hdrV noHdr) (by rw [hdrV_length h, cells_header]) (by rw [hdrV_length noHdr_ok, cells_header]) (by rw [hn4]; exact lits_hdr (n4 + 1) e h) (by rw [hn4]; exact lits_hdr (n4 + 1) noHdr noHdr_ok);rw [zeroHdr_eq] at hq;have hzv := fun w => zeroV_of zero_hdr w
 unfold zeroHdr at hq hzv
 have hz : r = true → rightH e = false := by
  intro h1;have h2 := hr.1 h1
  have h3 : e.height = 0 := by
   have := congrArg (fun l => l[1]?) h2;simpa [hdrV, noHdr] using this
  unfold rightH inB;rw [h3]; simp
 obtain ⟨a1, a2, a3⟩ := hdr_at h;have HL := kp (hdrV_length h);obtain ⟨xs, hxs⟩ := xe (hdrV e);rw [← hxs] at hq a1 a2 a3 HL ⊢;have HZ := kp hz;have A1 := kp a1; have A2 := kp a2; have A3 := kp a3;obtain ⟨res, hres⟩ := xe (rightH e);rw [← hres];have HRES := kp hres;obtain ⟨g, hg⟩ := xe w.heap.size;have HG := kp hg;clear hz a1 a2 a3 hr hxs hres hg h hn4
 go_enter Try.func101, Try.ntmps101
 go_wp2_with (with_reducible refine wbx 1 ?_);intro w1 hb1 hbw1 hsz1;rw [← HG.o] at hb1 hbw1 hsz1 ⊢;have H1 := kp hb1;have HB := kp hbw1;clear hb1 hbw1 hsz1;have c0 := H1.o.at_ A1.o;have c1 := H1.o.at_ A2.o;have c2 := H1.o.at_ A3.o;have w1' := fun w => hwithin_any e.shard 0 63 w
 have w2' := fun w => hwithin_any e.height 1 1099511627776 w
 have w3' := fun w => hwithin_any e.epoch 0 1099511627776 w
 have HRE : Hid (res = (inB e.shard 0 63 && inB e.height 1 1099511627776 && inB e.epoch 0 1099511627776)) := HRES;obtain ⟨b1, hb1⟩ := xe (inB e.shard 0 63);obtain ⟨b2, hb2⟩ := xe (inB e.height 1 1099511627776);obtain ⟨b3, hb3⟩ := xe (inB e.epoch 0 1099511627776);rw [← hb1, ← hb2, ← hb3] at HRE;have W1 := kq (∀ w, Calls Try.prog 115 #[.int .i64 e.shard, .int .i64 0, .int .i64 63] w fun en w' => en = .returned (.bool b1) ∧ w = w') (by rw [hb1]; exact w1');have W2 := kq (∀ w, Calls Try.prog 115 #[.int .i64 e.height, .int .i64 1, .int .i64 1099511627776] w fun en w' => en = .returned (.bool b2) ∧ w = w') (by rw [hb2]; exact w2');have W3 := kq (∀ w, Calls Try.prog 115 #[.int .i64 e.epoch, .int .i64 0, .int .i64 1099511627776] w fun en w' => en = .returned (.bool b3) ∧ w = w') (by rw [hb3]; exact w3');clear hb1 hb2 hb3 w1' w2' w3';generalize e.shard = k1 at *;generalize e.height = k2 at *;generalize e.epoch = k3 at *;cases r
 ·clear HZ HRES;cases b1
  ·go_wp2_with (with_reducible refine wlb 3 row_header H1.o HL.o ?_);go_wp2_with fail;refine (W1.o _).mono ?_;rintro e w_ ⟨rfl, rfl⟩;go_wp2_with fail;go_ret
   exact ⟨ret_bool (by rw [HRE.o]; rfl), by rw [← HG.o]; exact HB.o⟩
  cases b2
  ·go_wp2_with (with_reducible refine wlb 3 row_header H1.o HL.o ?_);go_wp2_with fail;refine (W1.o _).mono ?_;rintro e w_ ⟨rfl, rfl⟩;go_wp2_with fail;refine (W2.o _).mono ?_;rintro e w_ ⟨rfl, rfl⟩;go_wp2_with fail;go_ret
   exact ⟨ret_bool (by rw [HRE.o]; rfl), by rw [← HG.o]; exact HB.o⟩
  ·go_wp2_with (with_reducible refine wlb 3 row_header H1.o HL.o ?_);go_wp2_with fail;refine (W1.o _).mono ?_;rintro e w_ ⟨rfl, rfl⟩;go_wp2_with fail;refine (W2.o _).mono ?_;rintro e w_ ⟨rfl, rfl⟩;go_wp2_with fail;refine (W3.o _).mono ?_;rintro e w_ ⟨rfl, rfl⟩;go_wp2_with fail;go_ret
   exact ⟨ret_bool (by rw [HRE.o]; simp), by rw [← HG.o]; exact HB.o⟩
 ·have hf : res = false := HRES.o.trans (by simpa using HZ.o);have HF := kp hf;clear hf;go_wp2_with (with_reducible refine wlb 3 row_header H1.o HL.o ?_);go_ret
  exact ⟨ret_bool (by rw [HF.o]), by rw [← HG.o]; exact HB.o⟩
open Go.RowKit Go.Shelf
def longB (bs : List UInt8) : List UInt8 := beBytes bs.length 4 ++ bs
def underB (m : UInt8) (ls : List (List UInt8)) : List UInt8 := m :: ls.flatMap longB
theorem info_su8 : (Try.prog.info? 36).map (fun i => (i.zero, i.size, i.bytes)) = some (some (.slice none 0 0), 1, 24) := by kernel_rfl
theorem el_su8 : ElemT Try.prog 75 36 1 24 := elemT Try.underlying75 info_su8 rfl (by omega)
attribute [irreducible] underB longB
def halfN (n : Nat) : Nat := 2 ^ Nat.log2 (n - 1)
theorem halfN_lt {n : Nat} (h : 2 ≤ n) : halfN n < n := by
 unfold halfN;have := Nat.log2_self_le (n := n - 1) (by omega);omega
theorem halfN_pos (n : Nat) : 0 < halfN n := Nat.two_pow_pos _
def leafB (b : List UInt8) : List UInt8 := sha (underB 1 [b])
def nodeB (a b : List UInt8) : List UInt8 := sha (underB 2 [a, b])
def noneB : List UInt8 := sha (underB 0 [])
end Go.Proofs.Ytobmldegjajocaa

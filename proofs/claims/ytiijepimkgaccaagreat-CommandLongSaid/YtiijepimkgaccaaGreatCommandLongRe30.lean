/- What a command's look has seen is of the right kind and size (plain). No program in sight. -/
import Derived.Test.YtiijepimkgaccaaGreatCommandLongRe29
set_option linter.unusedSimpArgs false
set_option linter.unusedVariables false
set_option maxRecDepth 100000
set_option maxHeartbeats 16000000
namespace Go.Proofs.YtiijepimkgaccaaGreat
open Go.RowKit
theorem lookTexts_le : ∀ (n : Nat) (l : List UInt8) (qs : List (List UInt8)) (t : List UInt8), lookN (textR 2048) n l = .ok (qs, t) → qs.length = n ∧ ∀ b ∈ qs, b.length ≤ 2048
 | 0, l, qs, t, h => by injection h with h; injection h with h1 h2; subst h1; exact ⟨rfl, by simp⟩
 | n + 1, l, qs, t, h => by
  unfold lookN at h;split at h
  ·cases h
  rename_i a l1 h1;split at h
  ·cases h
  rename_i qs2 l2 h2;injection h with h; injection h with e1 e2
  subst e1;obtain ⟨k1, k2⟩ := lookTexts_le n _ _ _ h2;refine ⟨by simp [k1], fun b hb => ?_⟩;rcases List.mem_cons.1 hb with rfl | hb
  ·exact (textR_le h1).1
  ·exact k2 b hb
theorem lookCm_ok {l t : List UInt8} {p : LkC} (h : lookCm l = .ok (p, t)) : p.m.ok ∧ (1 ≤ p.m.kind ∧ p.m.kind ≤ 9) ∧ p.m.tx = noTxn ∧ p.m.certs = [] ∧ p.t.length ≤ 4096 ∧ p.cs.length ≤ 16 ∧ ∀ b ∈ p.cs, b.length ≤ 2048 := by
 unfold lookCm at h;split at h
 ·cases h
 rename_i k l1 h1;have hk9 := (numR_le h1).1;have hk : (kindC (k : Int)).ok := kindC_ok (by unfold I64; omega);split at h
 ·cases h
 rename_i hk0;split at h
 ·rename_i hk1;split at h
  ·cases h
  rename_i j1;split at h
  ·cases h
  rename_i j2;split at h
  ·cases h
  rename_i j3;injection h with h; injection h with e1 e2
  subst e1;have n1 := numR_le j1; have n3 := numR_le j3;have ho : (kindC 1).ok := kindC_ok (by unfold I64; omega);exact ⟨⟨ho.1, ho.2.1, ho.2.2.1, ⟨(takeR_le j2).1, by unfold U64; simp only; omega⟩, by unfold I64; simp only; omega, ho.2.2.2.2.2⟩, by simp [kindC], rfl, rfl, by simp, by simp, by simp⟩
 split at h
 ·split at h
  ·cases h
  rename_i j1;injection h with h; injection h with e1 e2
  subst e1;exact ⟨hk, by simp [kindC]; omega, rfl, rfl, (textR_le j1).1, by simp, by simp⟩
 split at h
 ·split at h
  ·cases h
  rename_i j1;split at h
  ·cases h
  rename_i j2;split at h
  ·cases h
  rename_i j3;injection h with h; injection h with e1 e2
  subst e1;have n2 := numR_le j2;obtain ⟨k1, k2⟩ := lookTexts_le _ _ _ _ j3;exact ⟨hk, by simp [kindC]; omega, rfl, rfl, (textR_le j1).1, by simp only; omega, k2⟩
 split at h
 ·split at h
  ·cases h
  rename_i j1;injection h with h; injection h with e1 e2
  subst e1;have n1 := numR_le j1;have ho : (kindC 7).ok := kindC_ok (by unfold I64; omega);exact ⟨⟨ho.1, ho.2.1, ho.2.2.1, ho.2.2.2.1, ho.2.2.2.2.1, by unfold I64; simp only; omega, ho.2.2.2.2.2.2⟩, by simp [kindC], rfl, rfl, by simp, by simp, by simp⟩
 split at h
 ·split at h
  ·cases h
  rename_i j1;injection h with h; injection h with e1 e2
  subst e1;have ho : (kindC 9).ok := kindC_ok (by unfold I64; omega);exact ⟨⟨ho.1, ho.2.1, ho.2.2.1, ho.2.2.2.1, ho.2.2.2.2.1, ho.2.2.2.2.2.1, (takeR_le j1).1⟩, by simp [kindC], rfl, rfl, by simp, by simp, by simp⟩
 ·injection h with h; injection h with e1 e2
  subst e1;exact ⟨hk, by simp [kindC]; omega, rfl, rfl, by simp, by simp, by simp⟩
theorem lookCm_err {l : List UInt8} {x : Nat} (h : lookCm l = .error x) : x ≠ 0 := by
 unfold lookCm at h;split at h
 ·rename_i j; injection h with h; subst h; exact numR_err j
 split at h
 ·injection h with h; omega
 split at h
 ·split at h
  ·rename_i j; injection h with h; subst h; exact numR_err j
  split at h
  ·rename_i j; injection h with h; subst h; exact takeR_err j
  split at h
  ·rename_i j; injection h with h; subst h; exact numR_err j
  cases h
 split at h
 ·split at h
  ·rename_i j; injection h with h; subst h; exact textR_err j
  cases h
 split at h
 ·split at h
  ·rename_i j; injection h with h; subst h; exact textR_err j
  split at h
  ·rename_i j; injection h with h; subst h; exact numR_err j
  split at h
  ·rename_i j; injection h with h; subst h; exact lookN_nz (fun l x h => textR_err h) _ j
  cases h
 split at h
 ·split at h
  ·rename_i j; injection h with h; subst h; exact numR_err j
  cases h
 split at h
 ·split at h
  ·rename_i j; injection h with h; subst h; exact takeR_err j
  cases h
 cases h
open Go.RowKit Go.Shelf
def CKept (g4 g5 : Nat) (w w2 : World) (l : List UInt8) : Prop := KpW w g4 g5 w2 ∧ (∀ p l', lookCm l = .ok (p, l') → ∃ TA tc A n c ps, Blk w2 g4 36 (noCW.vs p.m) ∧ Blk w2 g5 87 [.slice TA p.t.length tc, .slice A n c] ∧ TxtO w2 (w.heap.size + 1) TA tc p.t ∧ BBO w2 (w.heap.size + 1) A n c ps ∧ ps.map Prod.snd = p.cs) ∧ ∀ x, lookCm l = .error x → w2.heap[g5]? = w.heap[g5]?
theorem cmread1_any {Bd g g4 g5 : Nat} {l : List UInt8} {xs ys : List Value} (w w1 : World) (hg4 : g4 < w.heap.size) (hg5 : g5 < w.heap.size) (hne : g4 ≠ g5) (hb : Blk w g4 36 xs) (hxl : xs.length = 73) (hb5 : Blk w g5 87 ys) (hyl : ys.length = 2) (hw : Grow w w1) (hg : w.heap.size ≤ g) (he : EyeAt w1 (w.heap.size + 1) Bd g l) :
  Calls Tryz.prog 34 (#[.pointer (some ⟨g, 0, none⟩)] ++ #[.pointer (some ⟨g4, 0, none⟩), .pointer (some ⟨g5, 0, none⟩)]) w1 fun e w2 => CKept g4 g5 w w2 l ∧ w1.heap.size ≤ w2.heap.size ∧ w2.heap[w.heap.size]? = w1.heap[w.heap.size]? ∧
   ((∃ x, restOf (lookCm l) = .error x ∧ e = .panicked (brk x)) ∨ (∃ l', restOf (lookCm l) = .ok l' ∧ e = .returned (.tuple #[]) ∧ EyeAt w2 (w.heap.size + 1) Bd g l')) := by
 have HW := kp hw;have HE := kp he;have HV := kp (hb.grow hw); have HY := kp (hb5.grow hw);have HXL := kp hxl; have HYL := kp hyl;have hgl := he.lo;have hlt := he.lt;have HGG := kq (g ≠ w.heap.size ∧ g4 ≠ g ∧ g4 ≠ w.heap.size ∧ w.heap.size ≤ g ∧ g4 < w.heap.size + 1 ∧ g5 ≠ g ∧ g5 ≠ w.heap.size ∧ g5 < w.heap.size + 1 ∧ g4 ≠ g5) (by omega);have HLT := kq (w.heap.size < w1.heap.size) (by omega);have HYK := kq (∀ w2, w1.grownBy w2 (some g) → w2.heap[g5]? = w.heap[g5]?) (fun w2 h => (h.block g5 (Nat.lt_of_lt_of_le hg5 hw.size) (fun e => by injection e with e; omega)).trans (hw.block g5 hg5));have HKG := kq (∀ w2, w1.grownBy w2 (some g) → KpW w g4 g5 w2) (fun w2 h => Kept.trans (Kept.of_grow hw (fun j hj => hj.1)) (Kept.of_grown h (fun j hj => ⟨Nat.lt_of_lt_of_le hj.1 hw.size, fun e => by injection e with e; have := hj.1; omega⟩)));clear hb hb5 hw he hgl hlt hg hg4 hg5 hne hxl hyl;show Calls _ _ #[_, _, _] _ _
 go_enter Tryz.func34, Tryz.ntmps34
 go_wp2_with fail;refine (cmlook_any _ HE.o).mono ?_;rintro e w2 ⟨hg2, ⟨x, hx, rfl⟩ | ⟨p, l', TA, tc, A, n, c, ps, hx, rfl, hT, hO, hsn, hE⟩⟩
 ·have HG2 := kp hg2;have HX := kp hx;clear hg2 hx;go_wp2_with fail;refine ⟨by first | trivial | rfl, ⟨HKG.o _ HG2.o, (fun t l' e2 => by rw [HX.o] at e2; cases e2), fun _ _ => HYK.o _ HG2.o⟩, HG2.o.size, ?_, .inl ⟨x, by rw [HX.o]; rfl, rfl⟩⟩;exact HG2.o.block _ HLT.o (fun e => HGG.o.1 (Option.some.inj e).symm)
 ·have HX := kp hx;have HV2 := kp (HV.o.grown hg2 (fun e => HGG.o.2.1 (Option.some.inj e)));have HY2 := kp (HY.o.grown hg2 (fun e => HGG.o.2.2.2.2.2.1 (Option.some.inj e)));have HG2 := kp hg2;have HE2 := kp hE;have HT := kp hT; have HO := kp hO; have HSN := kp hsn;have HC := kq (Cl 73 (noCW.vs p.m)) (vs_cl (lookCm_ok hx).1);have HD := kq (Cl 2 [Value.slice TA p.t.length tc, .slice A n c]) ⟨rfl, fun u hu => by simp only [List.mem_cons, List.not_mem_nil, or_false] at hu; rcases hu with rfl | rfl <;> rfl⟩;obtain ⟨fv, hfv⟩ := xe (noCW.vs p.m);obtain ⟨yv, hyv⟩ := xe ([Value.slice TA p.t.length tc, .slice A n c]);have HFV := kp hfv; have HYV := kp hyv;rw [← hfv] at HC;rw [← hyv] at HD;rw [show (Value.agg #[.slice TA p.t.length tc, .slice A n c]) = .agg yv.toArray by rw [hyv], ← hfv];clear hg2 hx hT hO hsn hE hfv hyv HV HY HE;go_wp2_with (with_reducible refine wsb row_cmd HV2.o HXL.o HC.o.len HC.o.one ?_);intro w3 hb3 hg3 hs3;have HB3 := kp hb3;have HG3 := kp hg3;have HY3 := kp (HY2.o.grown hg3 (fun e => by injection e with e; have := HGG.o; omega));clear hb3 hg3 hs3 HV2 HY2;go_wp2_with (with_reducible refine wsb row_texts HY3.o HYL.o HD.o.len HD.o.one ?_);intro w4 hb4 hg4 hs4;have HB4 := kp hb4;have HG4 := kp hg4;have HC4 := kp (HB3.o.grown hg4 (fun e => by injection e with e; have := HGG.o; omega));clear hb4 hg4 hs4 HY3 HB3;go_wp2_with fail;refine bodyPost_end (results_none rfl _ _ _) rfl ?_
  have kz : ∀ b, w1.heap.size ≤ b → b < w2.heap.size → w4.heap[b]? = w2.heap[b]? := fun b h1 h2 =>
   (HG4.o.block b (Nat.lt_of_lt_of_le h2 HG3.o.size) (fun e => by injection e with e; have := HGG.o; have := HLT.o; omega)).trans (HG3.o.block b h2 (fun e => by injection e with e; have := HGG.o; have := HLT.o; omega))
  refine ⟨⟨KpW.put (KpW.put (HKG.o _ HG2.o) HG3.o (.inl rfl)) HG4.o (.inr rfl), fun p2 l2 e2 => ?_, fun x e2 => by rw [HX.o] at e2; cases e2⟩, Nat.le_trans HG2.o.size (Nat.le_trans HG3.o.size HG4.o.size), ?_, .inr ⟨l', by rw [HX.o]; rfl, rfl, (HE2.o.off HG3.o (.inl HGG.o.2.2.2.2.1)).off HG4.o (.inl HGG.o.2.2.2.2.2.2.2.1)⟩⟩
  ·rw [HX.o] at e2;injection e2 with e2
   injection e2 with e3 e4
   subst e3;exact ⟨TA, tc, A, n, c, ps, by rw [← HFV.o]; exact HC4.o, by rw [← HYV.o]; exact HB4.o, (HT.o.keep kz).base HLT.o, (HO.o.keep kz).base HLT.o, HSN.o⟩
  ·rw [HG4.o.block _ (Nat.lt_of_lt_of_le HLT.o (Nat.le_trans HG2.o.size HG3.o.size)) (fun e => HGG.o.2.2.2.2.2.2.1 (Option.some.inj e).symm), HG3.o.block _ (Nat.lt_of_lt_of_le HLT.o HG2.o.size) (fun e => HGG.o.2.2.1 (Option.some.inj e).symm), HG2.o.block _ HLT.o (fun e => HGG.o.1 (Option.some.inj e).symm)]
theorem ent_one (e : Ent) : ∀ u ∈ entV e, u.oneCell' = true := by
 intro u hu;unfold entV at hu;simp only [List.mem_cons, List.mem_append, List.mem_map, List.not_mem_nil, or_false] at hu;rcases hu with rfl | rfl | ⟨_, _, rfl⟩ | rfl | rfl | rfl <;> rfl
theorem built_ent1 (parts : List (Nat × Value)) : Tryz.prog.built 38 parts = Instr.fill (fun i => (#[(0, 1), (1, 1), (2, 32), (34, 1), (35, 1), (36, 1)] : Array (Nat × Nat))[i]?) (entV noEnt).toArray parts := by kernel_rfl
theorem err_lookE (l : List UInt8) (h : eyeErr (restOf (lookE l)) ≠ 0) : readE l = .error (eyeErr (restOf (lookE l))) := by
 unfold readE;cases e : lookE l with
 | error x => rfl
 | ok p =>
  obtain ⟨x, t⟩ := p;rw [e] at h;cases t with
  | nil => exact absurd rfl h
  | cons a t => simp [restOf, eyeErr]
theorem ok_lookE {l : List UInt8} (h : eyeErr (restOf (lookE l)) = 0) : ∃ x, lookE l = .ok (x, []) ∧ x.ok ∧ readE l = if x.kind = 0 then .error 3 else .ok x := by
 cases e : lookE l with
 | error x => rw [e] at h; exact absurd h (lookE_err e)
 | ok p =>
  obtain ⟨x, t⟩ := p;rw [e] at h;cases t with
  | nil =>
   refine ⟨x, rfl, (lookE_ok e).1, ?_⟩;unfold readE;rw [e];by_cases h2 : x.kind = 0 <;> simp [h2]
  | cons a t => simp [restOf, eyeErr] at h
theorem built_entE : Tryz.prog.built 38 [] = some (entV noEnt).toArray := by rw [built_ent1]; rfl
theorem eread1_any {Bd g g4 : Nat} {l : List UInt8} (w w1 : World) (hg4 : g4 < w.heap.size) (hb : Blk w g4 38 (entV noEnt)) (hw : Grow w w1) (hg : w.heap.size ≤ g) (he : EyeAt w1 (w.heap.size + 1) Bd g l) :
  Calls Tryz.prog 89 (#[.pointer (some ⟨g, 0, none⟩)] ++ #[.pointer (some ⟨g4, 0, none⟩)]) w1 fun e w2 => (∃ xs, KeptC 38 37 g4 w w2 xs ∧ ∀ h t, lookE l = .ok (h, t) → xs = entV h) ∧ w1.heap.size ≤ w2.heap.size ∧ w2.heap[w.heap.size]? = w1.heap[w.heap.size]? ∧
   ((∃ x, restOf (lookE l) = .error x ∧ e = .panicked (brk x)) ∨ (∃ l', restOf (lookE l) = .ok l' ∧ e = .returned (.tuple #[]) ∧ EyeAt w2 (w.heap.size + 1) Bd g l')) := by
 have HW := kp hw;have HE := kp he;have HV := kp (hb.grow hw);have hgl := he.lo;have hlt := he.lt;have HGG := kq (g ≠ w.heap.size ∧ g4 ≠ g ∧ g4 ≠ w.heap.size ∧ w.heap.size ≤ g ∧ g4 < w.heap.size + 1) (by omega);have HLT := kq (w.heap.size < w1.heap.size) (by omega);have HN := kp (entV_length noEnt_ok);have HN1 := kp (ent_one noEnt);clear hb hw he hgl hlt hg hg4;show Calls _ _ #[_, _] _ _
 go_enter Tryz.func89, Tryz.ntmps89
 go_wp2_with fail;refine (elook_any _ HE.o).mono ?_;rintro e w2 hr;obtain ⟨hg2, ⟨x, hx, rfl⟩ | ⟨v, l', hx, rfl, hE⟩⟩ := hr.get
 ·have HG2 := kp hg2;have HX := kp hx;clear hr hg2 hx;go_wp2_with fail;refine ⟨by first | trivial | rfl, ⟨_, ⟨HV.o.grown HG2.o (fun e => HGG.o.2.1 (Option.some.inj e)), HN.o, HN1.o, ?_⟩, fun h t e2 => by rw [HX.o] at e2; cases e2⟩, HG2.o.size, ?_, .inl ⟨x, by rw [HX.o]; rfl, rfl⟩⟩
  ·exact grownBy_new (grown_of_below HW.o _) (grownBy_trans (grownBy_refl _ _) HG2.o) HGG.o.2.2.2.1
  ·exact HG2.o.block _ HLT.o (fun e => HGG.o.1 (Option.some.inj e).symm)
 ·have HOK := kp (show v.ok by
   have h1 := hx
   exact (lookE_ok h1).1)
  have HX := kp hx;have HV2 := kp (HV.o.grown hg2 (fun e => HGG.o.2.1 (Option.some.inj e)));have HG2 := kp hg2;have HE2 := kp hE;have HC := kq (Cl 37 (entV v)) ⟨entV_length HOK.o, ent_one v⟩;obtain ⟨hv, hhv⟩ := xe (entV v);have HHV := kp hhv;rw [← hhv] at HC ⊢;clear hr hg2 hx hE hhv HV HE;go_wp2_with (with_reducible refine wsb row_ent3 HV2.o HN.o HC.o.len HC.o.one ?_);intro w3 hb3 hg3 hs3;have HB3 := kp hb3;have HG3 := kp hg3;clear hb3 hg3 hs3;go_wp2_with fail;refine bodyPost_end (results_none rfl _ _ _) rfl ?_;refine ⟨⟨_, ⟨HB3.o, HC.o.len, HC.o.one, ?_⟩, fun h t e2 => by rw [HX.o] at e2; injection e2 with e2; injection e2 with e2 _; rw [← e2]; exact HHV.o⟩, Nat.le_trans HG2.o.size HG3.o.size, ?_, .inr ⟨l', by rw [HX.o]; rfl, rfl, HE2.o.off HG3.o (.inl HGG.o.2.2.2.2)⟩⟩
  ·exact grownBy_trans (grownBy_new (grown_of_below HW.o _) HG2.o HGG.o.2.2.2.1) HG3.o
  ·rw [HG3.o.block _ (Nat.lt_of_lt_of_le HLT.o HG2.o.size) (fun e => HGG.o.2.2.1 (Option.some.inj e).symm), HG2.o.block _ HLT.o (fun e => HGG.o.1 (Option.some.inj e).symm)]
theorem row_en : RowT Tryz.prog 38 37 := ⟨_, Tryz.underlying38, by kernel_rfl, by kernel_rfl⟩
theorem len_en : (entV noEnt).length = 37 := entV_length noEnt_ok
theorem zero_en : (Tryz.prog.info? 38).map (·.zero) = some (some (.agg (entV noEnt).toArray)) := zero_ent3
theorem eread_any {A : Option Addr} {n c : Nat} {l : List UInt8} (w : World) (hs : Sl w w.heap.size 1 A n (l.map B)) (hn : n ≤ 1000000) :
  Calls Tryz.prog 68 #[.slice A n c] w fun e w' => e = .returned (.tuple #[.agg (entV (entOf (readE l))).toArray, .int .i64 (errOf (readE l) : Int)]) ∧ Below w.heap.size w w' := by
 have HS := kp hs;obtain ⟨er, her⟩ := xe (eyeErr (restOf (lookE l)));have HER := kp her;have HCZ := kq (Cl 37 (entV noEnt)) ⟨entV_length noEnt_ok, ent_one noEnt⟩;obtain ⟨res, hres⟩ := xe (readE l);have HRS := kp hres;have T0 := kp built_entE;rw [← hres];obtain ⟨w_, hw⟩ := xe w;have HB := kq (Below w.heap.size w w_) (by rw [hw]; exact Below.refl _ _)
 suffices H : Calls Tryz.prog 68 #[.slice A n c] w_ fun e w' => e = .returned (.tuple #[.agg (entV (entOf res)).toArray, .int .i64 (errOf res : Int)]) ∧ Below w.heap.size w w' by rw [hw] at H; exact H
 clear hw hs her hres
 go_enter Tryz.func68, Tryz.ntmps68
 go_wp2_with (with_reducible refine wal 2 zero_en ?_);intro v_ b_ y_ hsz2_;have HX_ := kp (at_mk b_ len_en);clear b_ hsz2_;have HG_ := kp HB.o.size;replace HB := kp (HB.o.grow' y_);generalize hg_ : w_.heap.size = g2 at HX_ HG_ ⊢;clear hg_;have HV_g := HG_;clear HG_;have HV := HX_;clear y_ HX_;try clear w_
 rename World => w_;go_wp2_with (with_reducible refine wal 4 zero_en ?_);intro v_ b_ y_ hsz2_;have HX_ := kp (at_mk b_ len_en);clear b_ hsz2_;have HG_ := kp HB.o.size;have HH_HV := kp (Nat.ne_of_lt HV.o.lt);replace HB := kp (HB.o.grow' y_);replace HV := kp (HV.o.grow y_);generalize hg_ : w_.heap.size = g4 at HX_ HG_ HH_HV ⊢;clear hg_;have HH_g := HG_;clear HG_;have HH := HX_;clear y_ HX_;try clear w_
 rename World => w_;go_wp2_with fail;refine (fread_any A n c l 89 #[.pointer (some ⟨g4, 0, none⟩)] (restOf (lookE l)) (fun w2 => ∃ xs, KeptC 38 37 g4 w_ w2 xs ∧ ∀ h t, lookE l = .ok (h, t) → xs = entV h) _ (HS.o.grow HB.o) hn (fun _ _ => rfl) (fun w1 Bd g hw hg he => eread1_any w_ w1 HH.o.lt HH.o.blk hw hg he)).mono ?_;rintro e w5 ⟨rfl, w2, ⟨xs, hk, hxs⟩, hb⟩;have HX := kp hxs;have HCX := kq (Cl 37 xs) ⟨hk.len, hk.one⟩;have HV_ := kq (At w5 g2 38 37 (entV noEnt)) ⟨(hb.block g2 HV.o.lt).trans (Blk.grown HV.o.blk hk.grown (fun e => HH_HV.o (Option.some.inj e))), HV.o.len⟩;have HH_ := kq (At w5 g4 38 37 xs) ⟨(hb.block g4 HH.o.lt).trans hk.blk, hk.len⟩;have HB_ := kq (Below w.heap.size w w5) (Below.trans (put_below HB.o HH_g.o hk.grown) (hb.mono HB.o.size));rw [← HER.o];clear hk hxs hb HV HH HB;have HV := HV_; have HH := HH_; have HB := HB_;clear HV_ HH_ HB_;try clear w2
 try clear w_
 rename World => w_;by_cases h0 : er = 0
 ·obtain ⟨x, hx1, hx2, hx3⟩ := ok_lookE (HER.o.symm.trans h0);have HXE := kq (xs = entV x) (HX.o _ _ hx1);have HRX := kq (res = if x.kind = 0 then .error 3 else .ok x) (HRS.o.trans hx3);have c0 := HH.o.blk.at_ (show xs[0]? = some (.int .i64 x.kind) by rw [HXE.o]; rfl);clear hx1 hx2 hx3;subst h0;by_cases hk : x.kind = 0
  ·have d0 : (x.kind == 0) = true := by simpa using hk
   have HRR := kq (res = .error 3) (by rw [HRX.o, if_pos hk]);clear hk;go_wp2_with (with_reducible refine wst 18 ?_);refine stop_go ?_;refine wpl_build rfl rfl T0.o ?_;go_wp2_with (with_reducible refine wsb row_en HV.o.blk HV.o.len HCZ.o.len HCZ.o.one ?_);intro v_ b_ g_ hsz2_;have HV_ := kp b_;have HB_ := kp (put_below HB.o HV_g.o g_);clear b_ g_ hsz2_;go_wp2_with fail;refine ret_cell_tmp rfl row_en HV_.o rfl HCZ.o.len rfl rfl ?_;exact ⟨by rw [HRR.o]; rfl, HB_.o⟩
  ·have d0 : (x.kind == 0) = false := by simpa using hk
   have HRR := kq (res = .ok x) (by rw [HRX.o, if_neg hk]);clear hk;go_wp2_with (with_reducible first | refine wlb 19 row_en HH.o.blk HH.o.len ?_ | refine wsb row_en HV.o.blk HV.o.len HCX.o.len HCX.o.one ?_);intro v_ b_ g_ hsz2_;have HV_ := kp b_;have HB_ := kp (put_below HB.o HV_g.o g_);clear b_ g_ hsz2_;go_wp2_with fail;refine ret_cell_tmp rfl row_en HV_.o rfl HCX.o.len rfl rfl ?_;exact ⟨by rw [HRR.o, HXE.o]; rfl, HB_.o⟩
 ·have d0 : ((er : Int) != 0) = true := by simp; omega
  have HRR := kq (res = .error er) (by rw [HRS.o, HER.o]; exact err_lookE l (by rw [← HER.o]; exact h0));go_wp2_with (with_reducible refine wst 12 ?_);refine stop_go ?_;refine wpl_build rfl rfl T0.o ?_;go_wp2_with (with_reducible refine wsb row_en HV.o.blk HV.o.len HCZ.o.len HCZ.o.one ?_);intro v_ b_ g_ hsz2_;have HV_ := kp b_;have HB_ := kp (put_below HB.o HV_g.o g_);clear b_ g_ hsz2_;go_wp2_with fail;refine ret_cell_tmp rfl row_en HV_.o rfl HCZ.o.len rfl rfl ?_;exact ⟨by rw [HRR.o]; rfl, HB_.o⟩
theorem sl_keepK {K : Nat → Prop} {w w' : World} {A : Option Addr} {n : Nat} {xs : List Value} (h : Sl w w.heap.size 1 A n xs) (hA : ∀ k, A.map Addr.block = some k → K k) (hk : Kept K w w') : Sl w' w'.heap.size 1 A n xs := by
 refine ⟨h.1, fun hn => ?_⟩;obtain ⟨b, off, e, hb, hc⟩ := h.2 hn;exact ⟨b, off, e, Nat.lt_of_lt_of_le hb hk.size, fun j u hu => (World.cell?_of_block (a := ⟨b, off + j, none⟩) (hk.block b (hA b (by rw [e]; rfl)))).trans (hc j u hu)⟩
theorem ids_keepK {K : Nat → Prop} {w w' : World} {A : Option Addr} {n c : Nat} {ds : List (List UInt8)} (h : Ids w A n c ds) (hA : ∀ k, A.map Addr.block = some k → K k) (hk : Kept K w w') : Ids w' A n c ds := by
 obtain ⟨⟨h0, h1⟩, h2⟩ := h;refine ⟨⟨h0, fun hn => ?_⟩, h2⟩;obtain ⟨b, off, e, hb, hc⟩ := h1 hn;exact ⟨b, off, e, Nat.lt_of_lt_of_le hb hk.size, fun j u hu => (World.cell?_of_block (a := ⟨b, off + j, none⟩) (hk.block b (hA b (by rw [e]; rfl)))).trans (hc j u hu)⟩
def K4 (Z g g4 g5 g6 : Nat) : Nat → Prop := fun k => k < Z ∧ k ≠ g ∧ k ≠ g4 ∧ k ≠ g5 ∧ k ≠ g6
def K3 (Z g g4 g6 : Nat) : Nat → Prop := fun k => k < Z ∧ k ≠ g ∧ k ≠ g4 ∧ k ≠ g6
def K2 (Z g g4 : Nat) : Nat → Prop := fun k => k < Z ∧ k ≠ g ∧ k ≠ g4
def CGot (w : World) (lo g4 g5 g6 : Nat) (r : Raw) : Prop :=
 ∃ A n c A5 c5 A6 c6, Blk w g4 43 (certV (.slice A n c) ⟨noEnt, r.path, noHdr, r.tag⟩) ∧ Ids w A n c r.path ∧ (∀ k, A.map Addr.block = some k → lo ≤ k) ∧
  Blk w g5 46 [.slice A5 r.eb.length c5] ∧ Sl w w.heap.size 1 A5 r.eb.length (r.eb.map B) ∧ (∀ k, A5.map Addr.block = some k → lo ≤ k) ∧
  Blk w g6 46 [.slice A6 r.hb.length c6] ∧ Sl w w.heap.size 1 A6 r.hb.length (r.hb.map B) ∧ (∀ k, A6.map Addr.block = some k → lo ≤ k)
def CEnd (w w1 : World) (Bd g g4 g5 g6 : Nat) (l : List UInt8) (e : Ending) (w2 : World) : Prop :=
 (Below g4 w w2 ∧ (∀ r t, lookCe l = .ok (r, t) → CGot w2 (w.heap.size + 1) g4 g5 g6 r)) ∧ w1.heap.size ≤ w2.heap.size ∧ w2.heap[w.heap.size]? = w1.heap[w.heap.size]? ∧
   ((∃ x, restOf (lookCe l) = .error x ∧ e = .panicked (brk x)) ∨ (∃ l', restOf (lookCe l) = .ok l' ∧ e = .returned (.tuple #[]) ∧ EyeAt w2 (w.heap.size + 1) Bd g l'))
def CPos (w w1 : World) (g g4 g5 g6 : Nat) : Prop := g4 < g5 ∧ g5 < g6 ∧ g6 < w.heap.size ∧ w.heap.size < g ∧ w.heap.size < w1.heap.size ∧ g < w1.heap.size ∧ Grow w w1
theorem cend_low {w w1 w2 : World} {g g4 g5 g6 : Nat} (hp : CPos w w1 g g4 g5 g6) (hk : Kept (K4 w1.heap.size g g4 g5 g6) w1 w2) : Below g4 w w2 ∧ w1.heap.size ≤ w2.heap.size ∧ w2.heap[w.heap.size]? = w1.heap[w.heap.size]? := by
 obtain ⟨h1, h2, h3, h4, h5, h6, h7⟩ := hp;refine ⟨?_, hk.size, hk.block _ ⟨h5, by omega, by omega, by omega, by omega⟩⟩;have h8 : Below g4 w1 w2 := hk.below (fun j hj => ⟨by omega, by omega, by omega, by omega, by omega⟩);exact (Below.mono h7 (by omega)).trans h8
theorem cend_err {w w1 w2 : World} {Bd g g4 g5 g6 x : Nat} {l : List UInt8} (hp : CPos w w1 g g4 g5 g6) (hk : Kept (K4 w1.heap.size g g4 g5 g6) w1 w2) (hx : lookCe l = .error x) : CEnd w w1 Bd g g4 g5 g6 l (.panicked (brk x)) w2 := by
 obtain ⟨h1, h2, h3⟩ := cend_low hp hk;exact ⟨⟨h1, fun r t h => by rw [hx] at h; cases h⟩, h2, h3, .inl ⟨x, by rw [hx]; rfl, rfl⟩⟩
theorem kept_eye {Z g g4 g5 g6 : Nat} {w1 w w' : World} (hk : Kept (K4 Z g g4 g5 g6) w1 w) (hz : Z ≤ w.heap.size) {q : Nat} (hg : w.grownBy w' (some q)) (hq : q = g ∨ q = g4 ∨ q = g5 ∨ q = g6) : Kept (K4 Z g g4 g5 g6) w1 w' :=
 hk.trans (Kept.of_grown hg (fun k hK => ⟨by have := hK.1; omega, fun e => by injection e with e; obtain ⟨_, a, b, c, d⟩ := hK; rcases hq with h | h | h | h <;> omega⟩))
theorem cert_setv {u v : Value} : (certV v noCer).set 37 u = certV u noCer := rfl
theorem cread1_any {Bd g g4 g5 g6 : Nat} {l : List UInt8} (w w1 : World) (hp : CPos w w1 g g4 g5 g6) (hb4 : Blk w g4 43 (certV (.slice none 0 0) noCer)) (hb5 : Blk w g5 46 [.slice none 0 0]) (hb6 : Blk w g6 46 [.slice none 0 0]) (he : EyeAt w1 (w.heap.size + 1) Bd g l) :
  Calls Tryz.prog 67 (#[.pointer (some ⟨g, 0, none⟩)] ++ #[.pointer (some ⟨g5, 0, none⟩), .pointer (some ⟨g4, 0, none⟩), .pointer (some ⟨g6, 0, none⟩)]) w1 fun e w2 => CEnd w w1 Bd g g4 g5 g6 l e w2 := by
 have HPOS := kp hp;have HE := kp he;have HB4 := kp (hb4.grow hp.2.2.2.2.2.2); have HB5 := kp (hb5.grow hp.2.2.2.2.2.2); have HB6 := kp (hb6.grow hp.2.2.2.2.2.2);obtain ⟨Z, hZ⟩ := xe w1.heap.size;have HZ := kp hZ;have HK := kq (Kept (K4 w1.heap.size g g4 g5 g6) w1 w1) (Kept.refl _ _);have HNUM := kq (g4 < g5 ∧ g5 < g6 ∧ g6 < w.heap.size ∧ w.heap.size < g ∧ w.heap.size < Z ∧ g < Z) (by obtain ⟨a, b, c, d, e, f, _⟩ := hp; rw [hZ]; exact ⟨a, b, c, d, e, f⟩);rw [← hZ] at HK;have HBD := kq (Bd ≤ Z) (by have := he.bd; rw [hZ]; exact this.2);have HERR := kp (fun (x : Nat) (w2 : World) (hk : Kept (K4 Z g g4 g5 g6) w1 w2) (hx : lookCe l = .error x) => cend_err (Bd := Bd) hp (by rw [← hZ]; exact hk) hx);obtain ⟨zc, hzc⟩ := xe (certV (.slice none 0 0) noCer);have HZC := kp hzc;rw [← hzc] at HB4;obtain ⟨res, hres⟩ := xe (lookCe l);have HRES := kp hres;unfold lookCe at hres;have HR := kp hres;clear hp hb4 hb5 hb6 he hZ hzc hres;show Calls Tryz.prog 67 #[.pointer (some ⟨g, 0, none⟩), .pointer (some ⟨g5, 0, none⟩), .pointer (some ⟨g4, 0, none⟩), .pointer (some ⟨g6, 0, none⟩)] w1 _
 go_enter Tryz.func67, Tryz.ntmps67
 go_wp2_with fail;refine (etext_any (most := 100) _ HE.o (by omega)).mono ?_;rintro e v_ ⟨hg_, ⟨x, hx_, rfl⟩ | ⟨eb, l1, A5, c5, hx_, rfl, ho_, hc_, hE_⟩⟩
 ·have HK_ := kp (kept_eye HK.o (by rw [HZ.o]; exact HK.o.size) hg_ (.inl rfl));have HX := kq (lookCe l = .error x) (by rw [← HRES.o, HR.o, hx_]);clear hg_ hx_;go_wp2_with fail;exact ⟨by first | trivial | rfl, HERR.o x _ HK_.o HX.o⟩
 have HR_ := HR.o;rw [hx_] at HR_;simp only at HR_;replace HR := kp HR_;clear HR_ hx_;have HK_ := kp (kept_eye HK.o (by rw [HZ.o]; exact HK.o.size) hg_ (.inl rfl));have HB4_ := kp (HB4.o.grown hg_ (fun e => by injection e with e; have := HNUM.o; omega)); have HB5_ := kp (HB5.o.grown hg_ (fun e => by injection e with e; have := HNUM.o; omega)); have HB6_ := kp (HB6.o.grown hg_ (fun e => by injection e with e; have := HNUM.o; omega));have HO5 := kq (OwnAt v_ Z A5 eb.length c5 (eb.map B)) (by rw [HZ.o]; exact ho_);have HC5 := kp hc_;have HE_ := kp hE_;clear hg_ ho_ hc_ hE_ HK HB4 HB5 HB6 HE;have HK := HK_; have HB4 := HB4_; have HB5 := HB5_; have HB6 := HB6_; have HE := HE_;clear HK_ HB4_ HB5_ HB6_ HE_;go_wp2_with (first | (refine wpl_store1 (o := ⟨none, .store _ _ _, _, _, _, _⟩) rfl rfl HB5.o rfl rfl (by kernel_rfl) rfl rfl (by simp) ?_));intro w3_ b_ g_ hsz2_;replace HK := kp (kept_eye HK.o (by have := HK.o.size; rw [HZ.o]; exact this) g_ (.inr (.inr (.inl rfl))));replace HB4 := kp (HB4.o.grown g_ (fun e => by injection e with e; have := HNUM.o; omega));replace HB5 := kq (Blk w3_ g5 46 [.slice A5 eb.length c5]) b_;replace HB6 := kp (HB6.o.grown g_ (fun e => by injection e with e; have := HNUM.o; omega));replace HE := kp (HE.o.off g_ (.inl (by have := HNUM.o; omega)));replace HO5 := kq (OwnAt w3_ Z A5 eb.length c5 (eb.map B)) (own_kept HO5.o g_ (fun q hq e => by have h1 := own_from HO5.o q (by rw [hq]; rfl); injection e with e; have := HNUM.o; omega));clear b_ g_ hsz2_;try clear v_
 go_wp2_with fail;refine (enum_any (most := 32) _ HE.o).mono ?_;rintro e v_ hr_;obtain ⟨hg_, ⟨x, hx_, rfl⟩ | ⟨n, l2, hx_, rfl, hE_⟩⟩ := hr_.get
 ·have HK_ := kp (kept_eye HK.o (by have := HK.o.size; rw [HZ.o]; exact this) hg_ (.inl rfl));have HX := kq (lookCe l = .error x) (by rw [← HRES.o, HR.o, hx_]);clear hg_ hx_ hr_;go_wp2_with fail;exact ⟨by first | trivial | rfl, HERR.o x _ HK_.o HX.o⟩
 have HR_ := HR.o;rw [hx_] at HR_;simp only at HR_;replace HR := kp HR_;have HN32 := kp (numR_le hx_).1;clear HR_ hx_ hr_;have HK_ := kp (kept_eye HK.o (by have := HK.o.size; rw [HZ.o]; exact this) hg_ (.inl rfl));have HB4_ := kp (HB4.o.grown hg_ (fun e => by injection e with e; have := HNUM.o; omega)); have HB5_ := kp (HB5.o.grown hg_ (fun e => by injection e with e; have := HNUM.o; omega)); have HB6_ := kp (HB6.o.grown hg_ (fun e => by injection e with e; have := HNUM.o; omega));have HO5_ := kq (OwnAt v_ Z A5 eb.length c5 (eb.map B)) (own_kept HO5.o hg_ (fun q hq e => by have h1 := own_from HO5.o q (by rw [hq]; rfl); injection e with e; have := HNUM.o; omega));have HE_ := kp hE_;clear hg_ hE_ HK HB4 HB5 HB6 HE HO5;have HKz := HK_; have HB4 := HB4_; have HB5z := HB5_; have HB6z := HB6_; have HE := HE_;have HS5z := kp (Sl.of_own HO5_.o);have HA5z := kq (∀ k, A5.map Addr.block = some k → Z ≤ k ∧ k < v_.heap.size) (fun k hk => ⟨own_from HO5_.o k hk, own_lt HO5_.o k hk⟩);clear HK_ HB4_ HB5_ HB6_ HE_ HO5_;try clear w3_
 rename World => wz;obtain ⟨Zp, hZp⟩ := xe wz.heap.size;have HZP := kp hZp;have HZZ := kq (Z ≤ Zp) (by have := HKz.o.size; rw [hZp, HZ.o]; exact this);rw [← hZp] at HA5z;clear hZp;have HK2 := kq (Kept (K2 Zp g g4) wz wz) (Kept.refl _ _);have HKJ := kq (∀ w', Kept (K2 Zp g g4) wz w' → Kept (K4 Z g g4 g5 g6) w1 w') (fun w' h => HKz.o.trans (h.mono (fun k hk => ⟨by have := hk.1; have := HZZ.o; omega, hk.2.1, hk.2.2.1⟩)));go_wp2_with fail;go_loopw [9] (fun iv wr => ∃ k : Nat, ∃ A c ds l', k ≤ n ∧ iv = .int .u64 (k : Int) ∧ Hid (idsR k l2 = .ok (ds, l')) ∧ Hid (EyeAt wr (w.heap.size + 1) Bd g l') ∧ Hid (Blk wr g4 43 (certV (.slice A k c) noCer)) ∧ Hid (OwnI wr Zp A k c ds) ∧ Hid (Kept (K2 Zp g g4) wz wr)) (fun iv _ => n - (intOf iv).toNat)
 case atStart => exact ⟨0, none, 0, [], l2, by omega, rfl, kp rfl, HE, by rw [← HZC.o]; exact HB4, kp (World.ownsRow_nil _ _ _ _), HK2⟩
 case round =>
  obtain ⟨k, A, c, ds, l', hk, rfl, hI, hE, hB, hO, hK⟩ := hrel;clear HE HB4 HK2;have HI := kp hI.o; have HE := kp hE.o; have HB4 := kp hB.o; have HO := kp hO.o; have HK2 := kp hK.o;clear hI hE hB hO hK;rename World => w_;have HZW := kq (Zp ≤ w_.heap.size) (by have := HK2.o.size; rw [HZP.o]; exact this);by_cases hlt : k < n
  ·have HB := kp (Below.refl w_.heap.size w_);have q1 : IntKind.u64.wrap ((k : Int) + 1) = (k : Int) + 1 := by have := HN32.o; rw [IntKind.wrap_u64]; omega
   cases htk : takeR 32 l' with
   | error x =>
    have HEC := kp (show ∀ w', Drawn w_ w' → Calls Tryz.prog 63 #[.pointer (some ⟨g, 0, none⟩)] w' (fun e v_ => e = .panicked (brk x) ∧ CEnd w w1 Bd g g4 g5 g6 l (.panicked (brk x)) v_) from fun w' hd =>
     (eid_any _ (HE.o.grow hd.grow)).mono fun e v_ hr => by
       obtain ⟨hg_, ⟨y, hy, rfl⟩ | ⟨d, t, hy, _⟩⟩ := hr.get
       ·rw [htk] at hy;injection hy with hy
        subst hy;have hk2 : Kept (K2 Zp g g4) wz w' := HK2.o.trans (Kept.of_grow hd.grow (fun j hj => by have := hj.1; have := HZW.o; omega));have h1 : idsR (k + 1) l2 = .error x := by rw [idsR, HI.o]; simp only; rw [htk]
        have h2 := idsR_err h1 (n - (k + 1));rw [show k + 1 + (n - (k + 1)) = n by omega] at h2;exact ⟨rfl, HERR.o x _ (kept_eye (HKJ.o _ hk2) (by have := HZW.o; have := HZZ.o; have := hd.grow.size; omega) hg_ (.inl rfl)) (by rw [← HRES.o, HR.o, h2])⟩
       ·rw [htk] at hy; cases hy)
    have cp := HB4.o.at_ (cert_v (v := .slice A k c) noCer_ok);clear htk q1
    go_upto_region 3 with fail
    refine wp_region_any (by kernel_rfl) ?_
    change wpAny _ _ _ _ _ _ _ (World.drew _)
    refine wpAny_take (i := 0) (v := ?_) rfl (by kernel_rfl) (by kernel_rfl) (by kernel_rfl) (fun _ _ _ h => h) (Or.inl ⟨by rfl, ?_⟩) ?_
    rotate_left
    ·intro w;go_simp;try with_reducible rfl
    refine wpAny_take (i := 2) (v := ?_) rfl (by kernel_rfl) (by kernel_rfl) (by kernel_rfl) (fun _ _ _ h => h) (Or.inl ⟨by rfl, ?_⟩) ?_
    rotate_left
    ·intro w;go_simp;try with_reducible rfl
    refine wpAny_ready (rs := [1, 3]) (by kernel_rfl) (by simp) ?_;refine AllReady.cons rfl (fun K hK => ?_) (AllReady.cons rfl (fun K hK => ?_) AllReady.nil)
    ·go_simp;refine hK _ _ ?_;clear hK K;refine wpAny_ready (rs := [3]) (by kernel_rfl) (by simp) ?_;refine AllReady.cons rfl (fun K hK => ?_) AllReady.nil;go_simp;go_wp2_with (go_at_call 63; refine (HEC.o _ ?_).mono ?_; exact ⟨_, rfl⟩; rintro e w3_ ⟨rfl, hend_⟩; (have HEND := kp hend_); clear hend_);go_wp2_with fail;exact ⟨by first | trivial | rfl, HEND.o⟩
    ·skip
     go_simp;go_wp2_with (go_at_call 63; refine (HEC.o _ ?_).mono ?_; exact ⟨_, rfl⟩; rintro e w3_ ⟨rfl, hend_⟩; (have HEND := kp hend_); clear hend_);go_wp2_with fail;exact ⟨by first | trivial | rfl, HEND.o⟩
   | ok pr =>
   obtain ⟨d0, l0⟩ := pr;have HTK := kp htk;clear htk;try go_wp2_with fail
   repeat' (first | (with_reducible refine wpp (id := 3) (fun a b => a.grownBy b (some g)) [0,1,0,4,4,3,0,3] (.get 0 (.get 1 (.get 2 (.act 3 (.act 4 (.act 5 (.get 6 (.act 7 .done)))))))) (fun a => grownBy_refl a _) (fun _ _ _ h k => grownBy_trans h k) ?_) | go_values | go_skip | go_guarded | go_step | go_upon | go_back)
   intro w_ hd_;have y_ := hd_.grow;replace HB := kp (HB.o.grow' y_);replace HE := kp (HE.o.grow y_);replace HB4 := kp (HB4.o.grow y_);replace HO := kp (HO.o.grow y_);clear y_ hd_;replace HK2 := kp (HK2.o.trans (Kept.of_grow HB.o (fun j hj => by have := hj.1; have := HZW.o; omega)));replace HZW := kp (Nat.le_trans HZW.o HB.o.size);clear HB;repeat ((first | refine plc (fun K hK => ?_) | refine pls (fun K hK => ?_) | refine psa (fun K hK => ?_)); go_simp; refine hK _ _ ?_; clear hK K)
   refine pl_read rfl rfl (by exact wanted_none rfl) (v := .slice A k c) (fun w3_ hf_ => by have c9 := (HB4.o.grown hf_ (fun e => by injection e with e; have := HNUM.o; omega)).at_ (cert_v (v := .slice A k c) noCer_ok); first | (go_simp; rfl) | (go_simp; done)) (fun K hK => ?_);go_simp;refine hK _ _ ?_;clear hK K;repeat ((first | refine plc (fun K hK => ?_) | refine pls (fun K hK => ?_) | refine psa (fun K hK => ?_)); go_simp; refine hK _ _ ?_; clear hK K)
   refine pac (fun K hK => ?_);go_wp2_with fail;refine (eid_any _ HE.o).mono ?_;rintro e v_ hr_;obtain ⟨hg_, ⟨x, hx_, rfl⟩ | ⟨d, l3, hx_, rfl, hE_⟩⟩ := hr_.get
   ·rw [HTK.o] at hx_; cases hx_
   have HI_ := kq (idsR (k + 1) l2 = .ok (ds ++ [d], l3)) (by rw [idsR, HI.o]; simp only; rw [hx_]);have hd32 := (takeR_le hx_).1;have HY := kp (dig_map hd32);have HGG := kp hg_;have HB4_ := kp (HB4.o.grown hg_ (fun e => by injection e with e; have := HNUM.o; omega));have HO_ := kq (OwnI v_ Zp A k c ds) (own_kept HO.o hg_ (fun q hq e => by have h1 := own_from HO.o q (by rw [hq]; rfl); injection e with e; have := HNUM.o; have := HZZ.o; omega));have HK2_ := kp (HK2.o.trans (Kept.of_grown hg_ (fun j hj => ⟨by have := hj.1; have := HZW.o; omega, fun e => by injection e with e; exact hj.2.1 e.symm⟩)));have HZW_ := kp (Nat.le_trans HZW.o hg_.size);have HE_ := kp hE_;clear hx_ hr_ hE_ HI HE HB4 HO HK2 HZW;have HI := HI_; have HE := HE_; have HB4 := HB4_; have HO := HO_; have HK2 := HK2_; have HZW := HZW_;clear HI_ HE_ HB4_ HO_ HK2_ HZW_;obtain ⟨ys, hys⟩ := xe (d.map B);have HYE := kp hys;rw [← hys] at HY ⊢;clear hys;go_wp2_with fail;refine hK _ _ (fun _ => HGG.o) ?_;clear hK K hg_ HGG;try clear w_
   rename World => w_;have hysl := HY.o.len;refine pac (fun K hK => ?_);go_wp2_with fail;generalize hw_ : World.alloc w_ _ = w4_;obtain ⟨hX_, y_, hs_⟩ := alloc_eq hw_;generalize hg_ : w_.heap.size = gx at hX_ hs_ ⊢;refine hK _ _ (fun _ => grown_of_below y_ _) ?_;clear hK K hysl;have HSX := kq (Sl w4_ w4_.heap.size 32 (some ⟨gx, 0, none⟩) 1 ys) ((show Blk w4_ gx 32 ys by have h := hX_; rw [fold_set _ ys (by rw [HY.o.len]; rfl)] at h; exact h).sl (by rw [HY.o.len]));replace HE := kp (HE.o.grow y_);replace HB4 := kp (HB4.o.grow y_);replace HO := kq (OwnI w4_ Zp A k c ds) (own_below HO.o y_);replace HK2 := kp (HK2.o.trans (Kept.of_grow y_ (fun j hj => by have := hj.1; have := HZW.o; omega)));replace HZW := kp (Nat.le_trans HZW.o y_.size);clear hw_ hX_ y_ hs_ hg_;try clear w_
   rename World => w_;have HIO := kq (w_.ownsRow Zp 32 32 (.slice A k c) k (idCells ds)) HO.o;refine pl_act rfl (by first | rfl | (go_simp; done) | rfl) (fun K hK => ?_);show wpList _ _ _ [⟨some _, .call _, _, _, _, _⟩] _ _
   have hn32 := HN32.o;go_wp2_with (at_builtin; refine wpl_apps rfl rfl el_id HIO.o rfl HSX.o rfl HY.o.one (by clear q1; omega) (by clear q1; omega) HZW.o ?_);clear hn32;intro A4 c4 w4_ ho_ hg_ hA_;have hne_ : ∀ q, A.map Addr.block = some q → Zp ≤ q := own_from HIO.o;replace HE := kp (HE.o.keep (fun j hj1 hj2 => hg_.block j (by have := HE.o.bd; omega) (fun e => by have h1 := hne_ _ e.symm; have := HBD.o; have := HZZ.o; omega)) hg_.size);replace HB4 := kp (HB4.o.grown hg_ (fun e => by have h1 := hne_ _ e.symm; have := HNUM.o; have := HZZ.o; omega));replace HO := kq (OwnI w4_ Zp A4 (k + 1) c4 (ds ++ [d])) (by unfold OwnI; rw [idCells_snoc, ← HYE.o]; exact ho_);replace HK2 := kp (HK2.o.trans (Kept.of_grown hg_ (fun j hj => ⟨by have := hj.1; have := HZW.o; omega, fun e => by have h1 := hne_ _ e; have := hj.1; omega⟩)));replace HZW := kp (Nat.le_trans HZW.o hg_.size);clear ho_ hg_ hA_ hne_ HIO HSX;go_wp2_with fail;refine hK _ _ (fun h => by cases h) ?_;clear hK K;try clear w_
   rename World => w_;repeat ((first | refine plc (fun K hK => ?_) | refine pls (fun K hK => ?_) | refine psa (fun K hK => ?_)); go_simp; refine hK _ _ ?_; clear hK K)
   refine pl_act rfl (by first | rfl | (go_simp; done) | rfl) (fun K hK => ?_);show wpList _ _ _ [⟨none, .store _ _ _, _, _, _, _⟩] _ _
   have hcl137 := certV_len (v := .slice A k c) noCer_ok;go_wp2_with (first | (refine wpl_store1 (o := ⟨none, .store _ _ _, _, _, _, _⟩) rfl rfl HB4.o rfl rfl (by kernel_rfl) rfl rfl (by rw [hcl137]; omega) ?_));clear hcl137;intro w5_ b_ hg_ hsz2_;have HB4_ := kq (Blk w5_ g4 43 (certV (.slice A4 (k + 1) c4) noCer)) (by rw [← cert_setv (v := .slice A k c)]; exact b_);have HO_ := kq (OwnI w5_ Zp A4 (k + 1) c4 (ds ++ [d])) (own_kept HO.o hg_ (fun q hq e => by have h1 := own_from HO.o q (by rw [hq]; rfl); injection e with e; have := HNUM.o; have := HZZ.o; omega));have HE_ := kp (HE.o.off hg_ (.inl (by have := HNUM.o; omega)));have HK2_ := kp (HK2.o.trans (Kept.of_grown hg_ (fun j hj => ⟨by have := hj.1; have := HZW.o; omega, fun e => by injection e with e; exact hj.2.2 e.symm⟩)));clear b_ hg_ hsz2_ HE HB4 HO HK2 HZW;go_wp2_with fail;refine hK _ _ (fun h => by cases h) ?_;clear hK K;refine pl_done ?_;go_wp2_with fail;go_roundw
   all_goals clear q1
   case rel => exact ⟨k + 1, A4, c4, ds ++ [d], l3, by omega, by first | go_num | simp | rfl, HI, HE_, HB4_, HO_, HK2_⟩
   case measure => simp [intOf]; omega
  ·obtain rfl : k = n := by omega
   have HR_ := HR.o;rw [HI.o] at HR_;simp only at HR_;replace HR := kp HR_;have hio := idsR_ok _ _ _ _ HI.o;have HIDS := kq (Ids w_ A k c ds) (Ids.own HO.o hio.1 hio.2.1 (own_cap HO.o));have HAI := kq (∀ q, A.map Addr.block = some q → Zp ≤ q ∧ q < w_.heap.size) (fun q hq => ⟨own_from HO.o q hq, own_lt HO.o q hq⟩);have HB5 := kp (HK2.o.blk HB5z.o ⟨by have := HNUM.o; have := HZZ.o; omega, by have := HNUM.o; omega, by have := HNUM.o; omega⟩);have HB6 := kp (HK2.o.blk HB6z.o ⟨by have := HNUM.o; have := HZZ.o; omega, by have := HNUM.o; omega, by have := HNUM.o; omega⟩);have HS5 := kp (sl_keepK HS5z.o (K := K2 Zp g g4) (fun q hq => by have h1 := HA5z.o q hq; have := HNUM.o; exact ⟨by omega, by omega, by omega⟩) HK2.o);have HK := kp (HKJ.o _ HK2.o);clear HR_ HI HO HB5z HB6z HS5z HKz HKJ HK2 hio;rename World => wy;obtain ⟨Z2, hZ2⟩ := xe wy.heap.size;have HZ2 := kp hZ2;rw [← hZ2] at HAI HZW;clear hZ2;have HK3 := kq (Kept (K3 Z2 g g4 g6) wy wy) (Kept.refl _ _);go_wp2_with fail;refine (etext_any (most := 100) _ HE.o (by omega)).mono ?_;rintro e v_ ⟨hg_, ⟨x, hx_, rfl⟩ | ⟨hb, l4, A6, c6, hx_, rfl, ho_, hc_, hE_⟩⟩
   ·have HK_ := kp (kept_eye HK.o (by have := HZW.o; have := HZZ.o; have := HZ2.o; omega) hg_ (.inl rfl));have HX := kq (lookCe l = .error x) (by rw [← HRES.o, HR.o, hx_]);clear hg_ hx_;go_wp2_with fail;exact ⟨by first | trivial | rfl, HERR.o x _ HK_.o HX.o⟩
   have HR_ := HR.o;rw [hx_] at HR_;simp only at HR_;replace HR := kp HR_;clear HR_ hx_;have HK_ := kp (kept_eye HK.o (by have := HZW.o; have := HZZ.o; have := HZ2.o; omega) hg_ (.inl rfl));have HK3_ := kp (HK3.o.trans (Kept.of_grown hg_ (fun j hj => ⟨by have := hj.1; have := HZ2.o; omega, fun e => by injection e with e; exact hj.2.1 e.symm⟩)));have HB4_ := kp (HB4.o.grown hg_ (fun e => by injection e with e; have := HNUM.o; omega)); have HB6_ := kp (HB6.o.grown hg_ (fun e => by injection e with e; have := HNUM.o; omega));have HO6 := kq (OwnAt v_ Z2 A6 hb.length c6 (hb.map B)) (by rw [HZ2.o]; exact ho_);have HE_ := kp hE_;have HZW2 := kq (Z2 ≤ v_.heap.size) (by rw [HZ2.o]; exact hg_.size);clear hg_ ho_ hc_ hE_ HK HK3 HB4 HB6 HE;have HK := HK_; have HK3 := HK3_; have HB4 := HB4_; have HB6 := HB6_; have HE := HE_;clear HK_ HK3_ HB4_ HB6_ HE_;go_wp2_with (first | (refine wpl_store1 (o := ⟨none, .store _ _ _, _, _, _, _⟩) rfl rfl HB6.o rfl rfl (by kernel_rfl) rfl rfl (by simp) ?_));intro w3_ b_ g_ hsz2_;have HB6_ := kq (Blk w3_ g6 46 [.slice A6 hb.length c6]) b_;have HK_ := kp (kept_eye HK.o (by have := HZW.o; have := HZZ.o; have := HZW2.o; omega) g_ (.inr (.inr (.inr rfl))));have HK3_ := kp (HK3.o.trans (Kept.of_grown g_ (fun j hj => ⟨by have := hj.1; have := HZW2.o; omega, fun e => by injection e with e; exact hj.2.2.2 e.symm⟩)));have HB4_ := kp (HB4.o.grown g_ (fun e => by injection e with e; have := HNUM.o; omega));have HE_ := kp (HE.o.off g_ (.inl (by have := HNUM.o; omega)));have HO6_ := kq (OwnAt w3_ Z2 A6 hb.length c6 (hb.map B)) (own_kept HO6.o g_ (fun q hq e => by have h1 := own_from HO6.o q (by rw [hq]; rfl); injection e with e; have := HNUM.o; have := HZW.o; have := HZZ.o; omega));have HZW3 := kq (Z2 ≤ w3_.heap.size) (by have := HZW2.o; omega);clear b_ g_ hsz2_ HK HK3 HB4 HB6 HE HO6 HZW2;have HK := HK_; have HK3 := HK3_; have HB4 := HB4_; have HB6 := HB6_; have HE := HE_; have HO6 := HO6_;clear HK_ HK3_ HB4_ HB6_ HE_ HO6_;try clear v_
   go_wp2_with fail;refine (eid_any _ HE.o).mono ?_;rintro e v_ hr_;obtain ⟨hg_, ⟨x, hx_, rfl⟩ | ⟨tg, l5, hx_, rfl, hE_⟩⟩ := hr_.get
   ·have HK_ := kp (kept_eye HK.o (by have := HZW.o; have := HZZ.o; have := HZW3.o; omega) hg_ (.inl rfl));have HX := kq (lookCe l = .error x) (by rw [← HRES.o, HR.o, hx_]);clear hg_ hx_ hr_;go_wp2_with fail;exact ⟨by first | trivial | rfl, HERR.o x _ HK_.o HX.o⟩
   have HLK := kq (lookCe l = .ok (⟨eb, ds, hb, tg⟩, l5)) (by rw [← HRES.o, HR.o, hx_]);have htl := (takeR_le hx_).1;have HTD := kp (dig_map htl);have HK_ := kp (kept_eye HK.o (by have := HZW.o; have := HZZ.o; have := HZW3.o; omega) hg_ (.inl rfl));have HK3_ := kp (HK3.o.trans (Kept.of_grown hg_ (fun j hj => ⟨by have := hj.1; have := HZW3.o; omega, fun e => by injection e with e; exact hj.2.1 e.symm⟩)));have HB4_ := kp (HB4.o.grown hg_ (fun e => by injection e with e; have := HNUM.o; omega)); have HB6_ := kp (HB6.o.grown hg_ (fun e => by injection e with e; have := HNUM.o; omega));have HO6_ := kq (OwnAt v_ Z2 A6 hb.length c6 (hb.map B)) (own_kept HO6.o hg_ (fun q hq e => by have h1 := own_from HO6.o q (by rw [hq]; rfl); injection e with e; have := HNUM.o; have := HZW.o; have := HZZ.o; omega));have HE_ := kp hE_;have HZW4 := kp (Nat.le_trans HZW3.o hg_.size);clear hg_ hx_ hr_ hE_ HK HK3 HB4 HB6 HE HO6 HR HRES;have HK := HK_; have HK3 := HK3_; have HB4 := HB4_; have HB6 := HB6_; have HE := HE_; have HO6 := HO6_;clear HK_ HK3_ HB4_ HB6_ HE_ HO6_;have hcl137 := certV_len (v := .slice A k c) noCer_ok;go_wp2_with (with_reducible first | refine wpl_storem (o := ⟨none, .store _ _ _, _, _, _, _⟩) (off := 105) rfl rfl row_id HB4.o rfl rfl HTD.o.len (by rw [hcl137]; omega) HTD.o.one ?_);clear hcl137;intro w4_ b_ g_ hsz2_;have HB4_ := kq (Blk w4_ g4 43 (certV (.slice A k c) ⟨noEnt, ds, noHdr, tg⟩)) (by have h := splice_c4 (v := .slice A k c) noCer_ok htl; rw [h] at b_; exact b_);have HK_ := kp (kept_eye HK.o (by have := HZW.o; have := HZZ.o; have := HZW4.o; omega) g_ (.inr (.inl rfl)));have HK3_ := kp (HK3.o.trans (Kept.of_grown g_ (fun j hj => ⟨by have := hj.1; have := HZW4.o; omega, fun e => by injection e with e; exact hj.2.2.1 e.symm⟩)));have HB6_ := kp (HB6.o.grown g_ (fun e => by injection e with e; have := HNUM.o; omega));have HE_ := kp (HE.o.off g_ (.inl (by have := HNUM.o; omega)));have HO6_ := kq (OwnAt w4_ Z2 A6 hb.length c6 (hb.map B)) (own_kept HO6.o g_ (fun q hq e => by have h1 := own_from HO6.o q (by rw [hq]; rfl); injection e with e; have := HNUM.o; have := HZW.o; have := HZZ.o; omega));clear b_ g_ hsz2_ HK HK3 HB4 HB6 HE HO6
   have HG := kp (show CGot w4_ (w.heap.size + 1) g4 g5 g6 ⟨eb, ds, hb, tg⟩ from
    ⟨A, k, c, A5, c5, A6, c6, HB4_.o, ids_keepK HIDS.o (K := K3 Z2 g g4 g6) (fun q hq => by have h1 := HAI.o q hq; have := HNUM.o; have := HZZ.o; exact ⟨h1.2, by omega, by omega, by omega⟩) HK3_.o, (fun q hq => by have h1 := HAI.o q hq; have := HNUM.o; have := HZZ.o; omega),
     HK3_.o.blk HB5.o ⟨by have := HNUM.o; have := HZZ.o; have := HZW.o; omega, by have := HNUM.o; omega, by have := HNUM.o; omega, by have := HNUM.o; omega⟩, sl_keepK HS5.o (K := K3 Z2 g g4 g6) (fun q hq => by have h1 := HA5z.o q hq; have := HNUM.o; have := HZW.o; exact ⟨by omega, by omega, by omega, by omega⟩) HK3_.o, (fun q hq => by have h1 := HA5z.o q hq; have := HNUM.o; omega),
     HB6_.o, Sl.of_own HO6_.o, (fun q hq => by have h1 := own_from HO6_.o q hq; have := HNUM.o; have := HZZ.o; have := HZW.o; omega)⟩)
   go_wp2_with fail;refine bodyPost_end (results_none rfl _ _ _) rfl ?_;have hkk := HK_.o;rw [HZ.o] at hkk;obtain ⟨h1, h2, h3⟩ := cend_low HPOS.o hkk;exact ⟨⟨h1, fun r t h => by rw [HLK.o] at h; injection h with h; injection h with h4 h5; rw [← h4]; exact HG.o⟩, h2, h3, .inr ⟨l5, by rw [HLK.o]; rfl, rfl, HE_.o⟩⟩
end Go.Proofs.YtiijepimkgaccaaGreat

/- What a command's look has seen is of the right kind and size (plain). No program in sight. -/
import Derived.Test.YtobmldegjajocaaCommandRateT24
import Derived.Test.YtobmldegjajocaaCommandRateT25
import Derived.Test.YtobmldegjajocaaCommandRateT23
import Derived.Test.YtobmldegjajocaaCommandRateT22
import Derived.Test.YtobmldegjajocaaCommandRateT13
import Derived.Deep.RegionWith
set_option linter.unusedSimpArgs false
/- What a command's look has seen is of the right kind and size (plain). No program in sight. -/
namespace Go.Proofs.Ytobmldegjajocaa
open Go.RowKit
set_option linter.unusedVariables false
theorem lookTexts_le : ∀ (n : Nat) (l : List UInt8) (qs : List (List UInt8)) (t : List UInt8), lookN (textR 2048) n l = .ok (qs, t) → qs.length = n ∧ ∀ b ∈ qs, b.length ≤ 2048
  | 0, l, qs, t, h => by injection h with h; injection h with h1 h2; subst h1; exact ⟨rfl, by simp⟩
  | n + 1, l, qs, t, h => by
    unfold lookN at h
    split at h
    · cases h
    rename_i a l1 h1
    split at h
    · cases h
    rename_i qs2 l2 h2
    injection h with h; injection h with e1 e2
    subst e1
    obtain ⟨k1, k2⟩ := lookTexts_le n _ _ _ h2
    refine ⟨by simp [k1], fun b hb => ?_⟩
    rcases List.mem_cons.1 hb with rfl | hb
    · exact (textR_le h1).1
    · exact k2 b hb
theorem lookCm_ok {l t : List UInt8} {p : LkC} (h : lookCm l = .ok (p, t)) : p.m.ok ∧ (1 ≤ p.m.kind ∧ p.m.kind ≤ 9) ∧ p.m.tx = noTxn ∧ p.m.certs = [] ∧ p.t.length ≤ 4096 ∧ p.cs.length ≤ 16 ∧ ∀ b ∈ p.cs, b.length ≤ 2048 := by
  unfold lookCm at h
  split at h
  · cases h
  rename_i k l1 h1
  have hk9 := (numR_le h1).1
  have hk : (kindC (k : Int)).ok := kindC_ok (by unfold I64; omega)
  split at h
  · cases h
  rename_i hk0
  split at h
  · rename_i hk1
    split at h
    · cases h
    rename_i j1
    split at h
    · cases h
    rename_i j2
    split at h
    · cases h
    rename_i j3
    injection h with h; injection h with e1 e2
    subst e1
    have n1 := numR_le j1; have n3 := numR_le j3
    have ho : (kindC 1).ok := kindC_ok (by unfold I64; omega)
    exact ⟨⟨ho.1, ho.2.1, ho.2.2.1, ⟨(takeR_le j2).1, by unfold U64; simp only; omega⟩, by unfold I64; simp only; omega, ho.2.2.2.2.2⟩, by simp [kindC], rfl, rfl, by simp, by simp, by simp⟩
  split at h
  · split at h
    · cases h
    rename_i j1
    injection h with h; injection h with e1 e2
    subst e1
    exact ⟨hk, by simp [kindC]; omega, rfl, rfl, (textR_le j1).1, by simp, by simp⟩
  split at h
  · split at h
    · cases h
    rename_i j1
    split at h
    · cases h
    rename_i j2
    split at h
    · cases h
    rename_i j3
    injection h with h; injection h with e1 e2
    subst e1
    have n2 := numR_le j2
    obtain ⟨k1, k2⟩ := lookTexts_le _ _ _ _ j3
    exact ⟨hk, by simp [kindC]; omega, rfl, rfl, (textR_le j1).1, by simp only; omega, k2⟩
  split at h
  · split at h
    · cases h
    rename_i j1
    injection h with h; injection h with e1 e2
    subst e1
    have n1 := numR_le j1
    have ho : (kindC 7).ok := kindC_ok (by unfold I64; omega)
    exact ⟨⟨ho.1, ho.2.1, ho.2.2.1, ho.2.2.2.1, ho.2.2.2.2.1, by unfold I64; simp only; omega, ho.2.2.2.2.2.2⟩, by simp [kindC], rfl, rfl, by simp, by simp, by simp⟩
  split at h
  · split at h
    · cases h
    rename_i j1
    injection h with h; injection h with e1 e2
    subst e1
    have ho : (kindC 9).ok := kindC_ok (by unfold I64; omega)
    exact ⟨⟨ho.1, ho.2.1, ho.2.2.1, ho.2.2.2.1, ho.2.2.2.2.1, ho.2.2.2.2.2.1, (takeR_le j1).1⟩, by simp [kindC], rfl, rfl, by simp, by simp, by simp⟩
  · injection h with h; injection h with e1 e2
    subst e1
    exact ⟨hk, by simp [kindC]; omega, rfl, rfl, by simp, by simp, by simp⟩
theorem lookCm_err {l : List UInt8} {x : Nat} (h : lookCm l = .error x) : x ≠ 0 := by
  unfold lookCm at h
  split at h
  · rename_i j; injection h with h; subst h; exact numR_err j
  split at h
  · injection h with h; omega
  split at h
  · split at h
    · rename_i j; injection h with h; subst h; exact numR_err j
    split at h
    · rename_i j; injection h with h; subst h; exact takeR_err j
    split at h
    · rename_i j; injection h with h; subst h; exact numR_err j
    cases h
  split at h
  · split at h
    · rename_i j; injection h with h; subst h; exact textR_err j
    cases h
  split at h
  · split at h
    · rename_i j; injection h with h; subst h; exact textR_err j
    split at h
    · rename_i j; injection h with h; subst h; exact numR_err j
    split at h
    · rename_i j; injection h with h; subst h; exact lookN_nz (fun l x h => textR_err h) _ j
    cases h
  split at h
  · split at h
    · rename_i j; injection h with h; subst h; exact numR_err j
    cases h
  split at h
  · split at h
    · rename_i j; injection h with h; subst h; exact takeR_err j
    cases h
  cases h
end Go.Proofs.Ytobmldegjajocaa
/- The contract of command.Read's closure. -/
namespace Go.Proofs.Ytobmldegjajocaa
open Go.RowKit Go.Shelf
set_option linter.unusedVariables false
/-- What the closure leaves. -/
def CKept (g4 g5 : Nat) (w w2 : World) (l : List UInt8) : Prop := KpW w g4 g5 w2 ∧ (∀ p l', lookCm l = .ok (p, l') → ∃ TA tc A n c ps, Blk w2 g4 33 (noCW.vs p.m) ∧ Blk w2 g5 77 [.slice TA p.t.length tc, .slice A n c] ∧ TxtO w2 (w.heap.size + 1) TA tc p.t ∧ BBO w2 (w.heap.size + 1) A n c ps ∧ ps.map Prod.snd = p.cs) ∧ ∀ x, lookCm l = .error x → w2.heap[g5]? = w.heap[g5]?
set_option maxRecDepth 100000 in
set_option maxHeartbeats 4000000 in
theorem cmread1_any {Bd g g4 g5 : Nat} {l : List UInt8} {xs ys : List Value} (w w1 : World) (hg4 : g4 < w.heap.size) (hg5 : g5 < w.heap.size) (hne : g4 ≠ g5) (hb : Blk w g4 33 xs) (hxl : xs.length = 73) (hb5 : Blk w g5 77 ys) (hyl : ys.length = 2) (hw : Grow w w1) (hg : w.heap.size ≤ g) (he : EyeAt w1 (w.heap.size + 1) Bd g l) :
    Calls Try.prog 37 (#[.pointer (some ⟨g, 0, none⟩)] ++ #[.pointer (some ⟨g4, 0, none⟩), .pointer (some ⟨g5, 0, none⟩)]) w1 fun e w2 => CKept g4 g5 w w2 l ∧ w1.heap.size ≤ w2.heap.size ∧ w2.heap[w.heap.size]? = w1.heap[w.heap.size]? ∧
      ((∃ x, restOf (lookCm l) = .error x ∧ e = .panicked (brk x)) ∨ (∃ l', restOf (lookCm l) = .ok l' ∧ e = .returned (.tuple #[]) ∧ EyeAt w2 (w.heap.size + 1) Bd g l')) := by
  have HW := Lib.hid hw
  have HE := Lib.hid he
  have HV := Lib.hid (hb.grow hw); have HY := Lib.hid (hb5.grow hw)
  have HXL := Lib.hid hxl; have HYL := Lib.hid hyl
  have hgl := he.lo
  have hlt := he.lt
  have HGG := Lib.hid (show g ≠ w.heap.size ∧ g4 ≠ g ∧ g4 ≠ w.heap.size ∧ w.heap.size ≤ g ∧ g4 < w.heap.size + 1 ∧ g5 ≠ g ∧ g5 ≠ w.heap.size ∧ g5 < w.heap.size + 1 ∧ g4 ≠ g5 by omega)
  have HLT := Lib.hid (show w.heap.size < w1.heap.size by omega)
  have HYK := Lib.hid (show ∀ w2, w1.grownBy w2 (some g) → w2.heap[g5]? = w.heap[g5]? from fun w2 h => (h.block g5 (Nat.lt_of_lt_of_le hg5 hw.size) (fun e => by injection e with e; omega)).trans (hw.block g5 hg5))
  have HKG := Lib.hid (show ∀ w2, w1.grownBy w2 (some g) → KpW w g4 g5 w2 from fun w2 h => Kept.trans (Kept.of_grow hw (fun j hj => hj.1)) (Kept.of_grown h (fun j hj => ⟨Nat.lt_of_lt_of_le hj.1 hw.size, fun e => by injection e with e; have := hj.1; omega⟩)))
  clear hb hb5 hw he hgl hlt hg hg4 hg5 hne hxl hyl
  show Calls _ _ #[_, _, _] _ _
  go_enter Try.func37, Try.ntmps37
  go_wp2_with fail
  refine (cmlook_any _ HE.out).mono ?_
  rintro e w2 ⟨hg2, ⟨x, hx, rfl⟩ | ⟨p, l', TA, tc, A, n, c, ps, hx, rfl, hT, hO, hsn, hE⟩⟩
  · have HG2 := Lib.hid hg2
    have HX := Lib.hid hx
    clear hg2 hx
    go_wp2_with fail
    refine ⟨by first | trivial | rfl, ⟨HKG.out _ HG2.out, (fun t l' e2 => by rw [HX.out] at e2; cases e2), fun _ _ => HYK.out _ HG2.out⟩, HG2.out.size, ?_, .inl ⟨x, by rw [HX.out]; rfl, rfl⟩⟩
    exact HG2.out.block _ HLT.out (fun e => HGG.out.1 (Option.some.inj e).symm)
  · have HX := Lib.hid hx
    have HV2 := Lib.hid (HV.out.grown hg2 (fun e => HGG.out.2.1 (Option.some.inj e)))
    have HY2 := Lib.hid (HY.out.grown hg2 (fun e => HGG.out.2.2.2.2.2.1 (Option.some.inj e)))
    have HG2 := Lib.hid hg2
    have HE2 := Lib.hid hE
    have HT := Lib.hid hT; have HO := Lib.hid hO; have HSN := Lib.hid hsn
    have HC := Lib.hid (show Cl 73 (noCW.vs p.m) from vs_cl (lookCm_ok hx).1)
    have HD := Lib.hid (show Cl 2 [Value.slice TA p.t.length tc, .slice A n c] from ⟨rfl, fun u hu => by simp only [List.mem_cons, List.not_mem_nil, or_false] at hu; rcases hu with rfl | rfl <;> rfl⟩)
    obtain ⟨fv, hfv⟩ : ∃ z, z = noCW.vs p.m := ⟨_, rfl⟩
    obtain ⟨yv, hyv⟩ : ∃ z, z = [Value.slice TA p.t.length tc, .slice A n c] := ⟨_, rfl⟩
    have HFV := Lib.hid hfv; have HYV := Lib.hid hyv
    rw [← hfv] at HC
    rw [← hyv] at HD
    rw [show (Value.agg #[.slice TA p.t.length tc, .slice A n c]) = .agg yv.toArray by rw [hyv], ← hfv]
    clear hg2 hx hT hO hsn hE hfv hyv HV HY HE
    go_wp2_with (first | (with_reducible refine wpl_storeb (o := ⟨none, .store _ _ _, _, _, _, _⟩) rfl rfl row_cmd HV2.out rfl rfl HXL.out HC.out.len HC.out.one ?_))
    intro w3 hb3 hg3 hs3
    have HB3 := Lib.hid hb3
    have HG3 := Lib.hid hg3
    have HY3 := Lib.hid (HY2.out.grown hg3 (fun e => by injection e with e; have := HGG.out; omega))
    clear hb3 hg3 hs3 HV2 HY2
    go_wp2_with (first | (with_reducible refine wpl_storeb (o := ⟨none, .store _ _ _, _, _, _, _⟩) rfl rfl row_texts HY3.out rfl rfl HYL.out HD.out.len HD.out.one ?_))
    intro w4 hb4 hg4 hs4
    have HB4 := Lib.hid hb4
    have HG4 := Lib.hid hg4
    have HC4 := Lib.hid (HB3.out.grown hg4 (fun e => by injection e with e; have := HGG.out; omega))
    clear hb4 hg4 hs4 HY3 HB3
    go_wp2_with fail
    refine bodyPost_end (results_none rfl _ _ _) rfl ?_
    have kz : ∀ b, w1.heap.size ≤ b → b < w2.heap.size → w4.heap[b]? = w2.heap[b]? := fun b h1 h2 =>
      (HG4.out.block b (Nat.lt_of_lt_of_le h2 HG3.out.size) (fun e => by injection e with e; have := HGG.out; have := HLT.out; omega)).trans (HG3.out.block b h2 (fun e => by injection e with e; have := HGG.out; have := HLT.out; omega))
    refine ⟨⟨KpW.put (KpW.put (HKG.out _ HG2.out) HG3.out (.inl rfl)) HG4.out (.inr rfl), fun p2 l2 e2 => ?_, fun x e2 => by rw [HX.out] at e2; cases e2⟩, Nat.le_trans HG2.out.size (Nat.le_trans HG3.out.size HG4.out.size), ?_, .inr ⟨l', by rw [HX.out]; rfl, rfl, (HE2.out.off HG3.out (.inl HGG.out.2.2.2.2.1)).off HG4.out (.inl HGG.out.2.2.2.2.2.2.2.1)⟩⟩
    · rw [HX.out] at e2
      injection e2 with e2
      injection e2 with e3 e4
      subst e3
      exact ⟨TA, tc, A, n, c, ps, by rw [← HFV.out]; exact HC4.out, by rw [← HYV.out]; exact HB4.out, (HT.out.keep kz).base HLT.out, (HO.out.keep kz).base HLT.out, HSN.out⟩
    · rw [HG4.out.block _ (Nat.lt_of_lt_of_le HLT.out (Nat.le_trans HG2.out.size HG3.out.size)) (fun e => HGG.out.2.2.2.2.2.2.1 (Option.some.inj e).symm), HG3.out.block _ (Nat.lt_of_lt_of_le HLT.out HG2.out.size) (fun e => HGG.out.2.2.1 (Option.some.inj e).symm), HG2.out.block _ HLT.out (fun e => HGG.out.1 (Option.some.inj e).symm)]
end Go.Proofs.Ytobmldegjajocaa
/- The contract of entry.Read. -/
namespace Go.Proofs.Ytobmldegjajocaa
open Go.RowKit Go.Shelf
set_option linter.unusedVariables false
theorem ent_one (e : Ent) : ∀ u ∈ entV e, u.oneCell' = true := by
  intro u hu
  unfold entV at hu
  simp only [List.mem_cons, List.mem_append, List.mem_map, List.not_mem_nil, or_false] at hu
  rcases hu with rfl | rfl | ⟨_, _, rfl⟩ | rfl | rfl | rfl <;> rfl
theorem built_ent1 (parts : List (Nat × Value)) : Try.prog.built 54 parts = Instr.fill (fun i => (#[(0, 1), (1, 1), (2, 32), (34, 1), (35, 1), (36, 1)] : Array (Nat × Nat))[i]?) (entV noEnt).toArray parts := by kernel_rfl
theorem err_lookE (l : List UInt8) (h : eyeErr (restOf (lookE l)) ≠ 0) : readE l = .error (eyeErr (restOf (lookE l))) := by
  unfold readE
  cases e : lookE l with
  | error x => rfl
  | ok p =>
    obtain ⟨x, t⟩ := p
    rw [e] at h
    cases t with
    | nil => exact absurd rfl h
    | cons a t => simp [restOf, eyeErr]
theorem ok_lookE {l : List UInt8} (h : eyeErr (restOf (lookE l)) = 0) : ∃ x, lookE l = .ok (x, []) ∧ x.ok ∧ readE l = if x.kind = 0 then .error 3 else .ok x := by
  cases e : lookE l with
  | error x => rw [e] at h; exact absurd h (lookE_err e)
  | ok p =>
    obtain ⟨x, t⟩ := p
    rw [e] at h
    cases t with
    | nil =>
      refine ⟨x, rfl, (lookE_ok e).1, ?_⟩
      unfold readE
      rw [e]
      by_cases h2 : x.kind = 0 <;> simp [h2]
    | cons a t => simp [restOf, eyeErr] at h
theorem built_entE : Try.prog.built 54 [] = some (entV noEnt).toArray := by rw [built_ent1]; rfl
set_option maxRecDepth 100000 in
set_option maxHeartbeats 4000000 in
theorem eread1_any {Bd g g4 : Nat} {l : List UInt8} (w w1 : World) (hg4 : g4 < w.heap.size) (hb : Blk w g4 54 (entV noEnt)) (hw : Grow w w1) (hg : w.heap.size ≤ g) (he : EyeAt w1 (w.heap.size + 1) Bd g l) :
    Calls Try.prog 104 (#[.pointer (some ⟨g, 0, none⟩)] ++ #[.pointer (some ⟨g4, 0, none⟩)]) w1 fun e w2 => (∃ xs, KeptC 54 37 g4 w w2 xs ∧ ∀ h t, lookE l = .ok (h, t) → xs = entV h) ∧ w1.heap.size ≤ w2.heap.size ∧ w2.heap[w.heap.size]? = w1.heap[w.heap.size]? ∧
      ((∃ x, restOf (lookE l) = .error x ∧ e = .panicked (brk x)) ∨ (∃ l', restOf (lookE l) = .ok l' ∧ e = .returned (.tuple #[]) ∧ EyeAt w2 (w.heap.size + 1) Bd g l')) := by
  have HW := Lib.hid hw
  have HE := Lib.hid he
  have HV := Lib.hid (hb.grow hw)
  have hgl := he.lo
  have hlt := he.lt
  have HGG := Lib.hid (show g ≠ w.heap.size ∧ g4 ≠ g ∧ g4 ≠ w.heap.size ∧ w.heap.size ≤ g ∧ g4 < w.heap.size + 1 by omega)
  have HLT := Lib.hid (show w.heap.size < w1.heap.size by omega)
  have HN := Lib.hid (entV_length noEnt_ok)
  have HN1 := Lib.hid (ent_one noEnt)
  clear hb hw he hgl hlt hg hg4
  show Calls _ _ #[_, _] _ _
  go_enter Try.func104, Try.ntmps104
  go_wp2_with fail
  refine (elook_any _ HE.out).mono ?_
  rintro e w2 hr
  obtain ⟨hg2, ⟨x, hx, rfl⟩ | ⟨v, l', hx, rfl, hE⟩⟩ := hr.get
  · have HG2 := Lib.hid hg2
    have HX := Lib.hid hx
    clear hr hg2 hx
    go_wp2_with fail
    refine ⟨by first | trivial | rfl, ⟨_, ⟨HV.out.grown HG2.out (fun e => HGG.out.2.1 (Option.some.inj e)), HN.out, HN1.out, ?_⟩, fun h t e2 => by rw [HX.out] at e2; cases e2⟩, HG2.out.size, ?_, .inl ⟨x, by rw [HX.out]; rfl, rfl⟩⟩
    · exact grownBy_new (grown_of_below HW.out _) (grownBy_trans (grownBy_refl _ _) HG2.out) HGG.out.2.2.2.1
    · exact HG2.out.block _ HLT.out (fun e => HGG.out.1 (Option.some.inj e).symm)
  · have HOK := Lib.hid (show v.ok by
      have h1 := hx
      exact (lookE_ok h1).1)
    have HX := Lib.hid hx
    have HV2 := Lib.hid (HV.out.grown hg2 (fun e => HGG.out.2.1 (Option.some.inj e)))
    have HG2 := Lib.hid hg2
    have HE2 := Lib.hid hE
    have HC := Lib.hid (show Cl 37 (entV v) from ⟨entV_length HOK.out, ent_one v⟩)
    obtain ⟨hv, hhv⟩ : ∃ q, q = entV v := ⟨_, rfl⟩
    have HHV := Lib.hid hhv
    rw [← hhv] at HC ⊢
    clear hr hg2 hx hE hhv HV HE
    go_wp2_with (first | (with_reducible refine wpl_storeb (o := ⟨none, .store _ _ _, _, _, _, _⟩) rfl rfl row_ent3 HV2.out rfl rfl HN.out HC.out.len HC.out.one ?_))
    intro w3 hb3 hg3 hs3
    have HB3 := Lib.hid hb3
    have HG3 := Lib.hid hg3
    clear hb3 hg3 hs3
    go_wp2_with fail
    refine bodyPost_end (results_none rfl _ _ _) rfl ?_
    refine ⟨⟨_, ⟨HB3.out, HC.out.len, HC.out.one, ?_⟩, fun h t e2 => by rw [HX.out] at e2; injection e2 with e2; injection e2 with e2 _; rw [← e2]; exact HHV.out⟩, Nat.le_trans HG2.out.size HG3.out.size, ?_, .inr ⟨l', by rw [HX.out]; rfl, rfl, HE2.out.off HG3.out (.inl HGG.out.2.2.2.2)⟩⟩
    · exact grownBy_trans (grownBy_new (grown_of_below HW.out _) HG2.out HGG.out.2.2.2.1) HG3.out
    · rw [HG3.out.block _ (Nat.lt_of_lt_of_le HLT.out HG2.out.size) (fun e => HGG.out.2.2.1 (Option.some.inj e).symm), HG2.out.block _ HLT.out (fun e => HGG.out.1 (Option.some.inj e).symm)]
theorem row_en : RowT Try.prog 54 37 := ⟨_, Try.underlying54, by kernel_rfl, by kernel_rfl⟩
theorem len_en : (entV noEnt).length = 37 := entV_length noEnt_ok
theorem zero_en : (Try.prog.info? 54).map (·.zero) = some (some (.agg (entV noEnt).toArray)) := zero_ent3
set_option maxRecDepth 100000 in
set_option maxHeartbeats 4000000 in
theorem eread_any {A : Option Addr} {n c : Nat} {l : List UInt8} (w : World) (hs : Sl w w.heap.size 1 A n (l.map B)) (hn : n ≤ 1000000) :
    Calls Try.prog 77 #[.slice A n c] w fun e w' => e = .returned (.tuple #[.agg (entV (entOf (readE l))).toArray, .int .i64 (errOf (readE l) : Int)]) ∧ Below w.heap.size w w' := by
  have HS := Lib.hid hs
  obtain ⟨er, her⟩ : ∃ q, q = eyeErr (restOf (lookE l)) := ⟨_, rfl⟩
  have HER := Lib.hid her
  have HCZ := Lib.hid (show Cl 37 (entV noEnt) from ⟨entV_length noEnt_ok, ent_one noEnt⟩)
  obtain ⟨res, hres⟩ : ∃ q, q = readE l := ⟨_, rfl⟩
  have HRS := Lib.hid hres
  have T0 := Lib.hid built_entE
  rw [← hres]
  obtain ⟨w_, hw⟩ : ∃ x, x = w := ⟨_, rfl⟩
  have HB := Lib.hid (show Below w.heap.size w w_ by rw [hw]; exact Below.refl _ _)
  suffices H : Calls Try.prog 77 #[.slice A n c] w_ fun e w' => e = .returned (.tuple #[.agg (entV (entOf res)).toArray, .int .i64 (errOf res : Int)]) ∧ Below w.heap.size w w' by rw [hw] at H; exact H
  clear hw hs her hres
  go_enter Try.func77, Try.ntmps77
  go_wp2_with (first | (with_reducible refine wpl_alloc (o := ⟨some 2, _, _, _, _, _⟩) rfl rfl zero_en ?_))
  intro w2_ hb2_ hb_ hsz2_
  have HX_ := Lib.hid (at_mk hb2_ len_en)
  clear hb2_ hsz2_
  have HG_ := Lib.hid HB.out.size
  have HB_ := Lib.hid (HB.out.grow' hb_)
  clear HB
  have HB := HB_
  clear HB_
  generalize hg_ : w_.heap.size = g2 at HX_ HG_ ⊢
  clear hg_
  have HV_g := HG_
  clear HG_
  have HV := HX_
  clear hb_ HX_
  try clear w_
  rename World => w_
  go_wp2_with (first | (with_reducible refine wpl_alloc (o := ⟨some 4, _, _, _, _, _⟩) rfl rfl zero_en ?_))
  intro w2_ hb2_ hb_ hsz2_
  have HX_ := Lib.hid (at_mk hb2_ len_en)
  clear hb2_ hsz2_
  have HG_ := Lib.hid HB.out.size
  have HH_HV := Lib.hid (Nat.ne_of_lt HV.out.lt)
  have HB_ := Lib.hid (HB.out.grow' hb_)
  clear HB
  have HB := HB_
  clear HB_
  have HV_ := Lib.hid (HV.out.grow hb_)
  clear HV
  have HV := HV_
  clear HV_
  generalize hg_ : w_.heap.size = g4 at HX_ HG_ HH_HV ⊢
  clear hg_
  have HH_g := HG_
  clear HG_
  have HH := HX_
  clear hb_ HX_
  try clear w_
  rename World => w_
  go_wp2_with fail
  refine (fread_any A n c l 104 #[.pointer (some ⟨g4, 0, none⟩)] (restOf (lookE l)) (fun w2 => ∃ xs, KeptC 54 37 g4 w_ w2 xs ∧ ∀ h t, lookE l = .ok (h, t) → xs = entV h) _ (HS.out.grow HB.out) hn (fun _ _ => rfl) (fun w1 Bd g hw hg he => eread1_any w_ w1 HH.out.lt HH.out.blk hw hg he)).mono ?_
  rintro e w5 ⟨rfl, w2, ⟨xs, hk, hxs⟩, hb⟩
  have HX := Lib.hid hxs
  have HCX := Lib.hid (show Cl 37 xs from ⟨hk.len, hk.one⟩)
  have HV_ := Lib.hid (show At w5 g2 54 37 (entV noEnt) from ⟨(hb.block g2 HV.out.lt).trans (Blk.grown HV.out.blk hk.grown (fun e => HH_HV.out (Option.some.inj e))), HV.out.len⟩)
  have HH_ := Lib.hid (show At w5 g4 54 37 xs from ⟨(hb.block g4 HH.out.lt).trans hk.blk, hk.len⟩)
  have HB_ := Lib.hid (show Below w.heap.size w w5 from Below.trans (put_below HB.out HH_g.out hk.grown) (hb.mono HB.out.size))
  rw [← HER.out]
  clear hk hxs hb HV HH HB
  have HV := HV_; have HH := HH_; have HB := HB_
  clear HV_ HH_ HB_
  try clear w2
  try clear w_
  rename World => w_
  by_cases h0 : er = 0
  · obtain ⟨x, hx1, hx2, hx3⟩ := ok_lookE (HER.out.symm.trans h0)
    have HXE := Lib.hid (show xs = entV x from HX.out _ _ hx1)
    have HRX := Lib.hid (show res = if x.kind = 0 then .error 3 else .ok x from HRS.out.trans hx3)
    have c0 := HH.out.blk.at_ (show xs[0]? = some (.int .i64 x.kind) by rw [HXE.out]; rfl)
    clear hx1 hx2 hx3
    subst h0
    by_cases hk : x.kind = 0
    · have d0 : (x.kind == 0) = true := by simpa using hk
      have HRR := Lib.hid (show res = .error 3 by rw [HRX.out, if_pos hk])
      clear hk
      go_wp2_with (first | (with_reducible refine wpl_stop (o := ⟨some 18, _, _, _, _, _⟩) ?_))
      refine stop_go ?_
      refine wpl_build rfl rfl T0.out ?_
      go_wp2_with (first | (with_reducible refine wpl_storeb (o := ⟨none, .store _ _ _, _, _, _, _⟩) rfl rfl row_en HV.out.blk rfl rfl HV.out.len HCZ.out.len HCZ.out.one ?_))
      intro w2_ hb2_ hg2_ hsz2_
      have HV_ := Lib.hid hb2_
      have HB_ := Lib.hid (put_below HB.out HV_g.out hg2_)
      clear hb2_ hg2_ hsz2_
      go_wp2_with fail
      refine ret_cell_tmp rfl row_en HV_.out rfl HCZ.out.len rfl rfl ?_
      exact ⟨by rw [HRR.out]; rfl, HB_.out⟩
    · have d0 : (x.kind == 0) = false := by simpa using hk
      have HRR := Lib.hid (show res = .ok x by rw [HRX.out, if_neg hk])
      clear hk
      go_wp2_with (first | (with_reducible refine wpl_loadb (o := ⟨some 19, _, _, _, _, _⟩) rfl rfl row_en HH.out.blk rfl HH.out.len ?_) | (with_reducible refine wpl_storeb (o := ⟨none, .store _ _ _, _, _, _, _⟩) rfl rfl row_en HV.out.blk rfl rfl HV.out.len HCX.out.len HCX.out.one ?_))
      intro w2_ hb2_ hg2_ hsz2_
      have HV_ := Lib.hid hb2_
      have HB_ := Lib.hid (put_below HB.out HV_g.out hg2_)
      clear hb2_ hg2_ hsz2_
      go_wp2_with fail
      refine ret_cell_tmp rfl row_en HV_.out rfl HCX.out.len rfl rfl ?_
      exact ⟨by rw [HRR.out, HXE.out]; rfl, HB_.out⟩
  · have d0 : ((er : Int) != 0) = true := by simp; omega
    have HRR := Lib.hid (show res = .error er by rw [HRS.out, HER.out]; exact err_lookE l (by rw [← HER.out]; exact h0))
    go_wp2_with (first | (with_reducible refine wpl_stop (o := ⟨some 12, _, _, _, _, _⟩) ?_))
    refine stop_go ?_
    refine wpl_build rfl rfl T0.out ?_
    go_wp2_with (first | (with_reducible refine wpl_storeb (o := ⟨none, .store _ _ _, _, _, _, _⟩) rfl rfl row_en HV.out.blk rfl rfl HV.out.len HCZ.out.len HCZ.out.one ?_))
    intro w2_ hb2_ hg2_ hsz2_
    have HV_ := Lib.hid hb2_
    have HB_ := Lib.hid (put_below HB.out HV_g.out hg2_)
    clear hb2_ hg2_ hsz2_
    go_wp2_with fail
    refine ret_cell_tmp rfl row_en HV_.out rfl HCZ.out.len rfl rfl ?_
    exact ⟨by rw [HRR.out]; rfl, HB_.out⟩
end Go.Proofs.Ytobmldegjajocaa
/- The contract of cert.Read's closure. -/
namespace Go.Proofs.Ytobmldegjajocaa
open Go.RowKit Go.Shelf
set_option linter.unusedVariables false
theorem sl_keepK {K : Nat → Prop} {w w' : World} {A : Option Addr} {n : Nat} {xs : List Value} (h : Sl w w.heap.size 1 A n xs) (hA : ∀ k, A.map Addr.block = some k → K k) (hk : Kept K w w') : Sl w' w'.heap.size 1 A n xs := by
  refine ⟨h.1, fun hn => ?_⟩
  obtain ⟨b, off, e, hb, hc⟩ := h.2 hn
  exact ⟨b, off, e, Nat.lt_of_lt_of_le hb hk.size, fun j u hu => (World.cell?_of_block (a := ⟨b, off + j, none⟩) (hk.block b (hA b (by rw [e]; rfl)))).trans (hc j u hu)⟩
theorem ids_keepK {K : Nat → Prop} {w w' : World} {A : Option Addr} {n c : Nat} {ds : List (List UInt8)} (h : Ids w A n c ds) (hA : ∀ k, A.map Addr.block = some k → K k) (hk : Kept K w w') : Ids w' A n c ds := by
  obtain ⟨⟨h0, h1⟩, h2⟩ := h
  refine ⟨⟨h0, fun hn => ?_⟩, h2⟩
  obtain ⟨b, off, e, hb, hc⟩ := h1 hn
  exact ⟨b, off, e, Nat.lt_of_lt_of_le hb hk.size, fun j u hu => (World.cell?_of_block (a := ⟨b, off + j, none⟩) (hk.block b (hA b (by rw [e]; rfl)))).trans (hc j u hu)⟩
def K4 (Z g g4 g5 g6 : Nat) : Nat → Prop := fun k => k < Z ∧ k ≠ g ∧ k ≠ g4 ∧ k ≠ g5 ∧ k ≠ g6
def K3 (Z g g4 g6 : Nat) : Nat → Prop := fun k => k < Z ∧ k ≠ g ∧ k ≠ g4 ∧ k ≠ g6
def K2 (Z g g4 : Nat) : Nat → Prop := fun k => k < Z ∧ k ≠ g ∧ k ≠ g4
/-- What was read lies so. -/
def CGot (w : World) (lo g4 g5 g6 : Nat) (r : Raw) : Prop :=
  ∃ A n c A5 c5 A6 c6, Blk w g4 59 (certV (.slice A n c) ⟨noEnt, r.path, noHdr, r.tag⟩) ∧ Ids w A n c r.path ∧ (∀ k, A.map Addr.block = some k → lo ≤ k) ∧
    Blk w g5 36 [.slice A5 r.eb.length c5] ∧ Sl w w.heap.size 1 A5 r.eb.length (r.eb.map B) ∧ (∀ k, A5.map Addr.block = some k → lo ≤ k) ∧
    Blk w g6 36 [.slice A6 r.hb.length c6] ∧ Sl w w.heap.size 1 A6 r.hb.length (r.hb.map B) ∧ (∀ k, A6.map Addr.block = some k → lo ≤ k)
/-- The closure's end. -/
def CEnd (w w1 : World) (Bd g g4 g5 g6 : Nat) (l : List UInt8) (e : Ending) (w2 : World) : Prop :=
  (Below g4 w w2 ∧ (∀ r t, lookCe l = .ok (r, t) → CGot w2 (w.heap.size + 1) g4 g5 g6 r)) ∧ w1.heap.size ≤ w2.heap.size ∧ w2.heap[w.heap.size]? = w1.heap[w.heap.size]? ∧
      ((∃ x, restOf (lookCe l) = .error x ∧ e = .panicked (brk x)) ∨ (∃ l', restOf (lookCe l) = .ok l' ∧ e = .returned (.tuple #[]) ∧ EyeAt w2 (w.heap.size + 1) Bd g l'))
def CPos (w w1 : World) (g g4 g5 g6 : Nat) : Prop := g4 < g5 ∧ g5 < g6 ∧ g6 < w.heap.size ∧ w.heap.size < g ∧ w.heap.size < w1.heap.size ∧ g < w1.heap.size ∧ Grow w w1
theorem cend_low {w w1 w2 : World} {g g4 g5 g6 : Nat} (hp : CPos w w1 g g4 g5 g6) (hk : Kept (K4 w1.heap.size g g4 g5 g6) w1 w2) : Below g4 w w2 ∧ w1.heap.size ≤ w2.heap.size ∧ w2.heap[w.heap.size]? = w1.heap[w.heap.size]? := by
  obtain ⟨h1, h2, h3, h4, h5, h6, h7⟩ := hp
  refine ⟨?_, hk.size, hk.block _ ⟨h5, by omega, by omega, by omega, by omega⟩⟩
  have h8 : Below g4 w1 w2 := hk.below (fun j hj => ⟨by omega, by omega, by omega, by omega, by omega⟩)
  exact (Below.mono h7 (by omega)).trans h8
theorem cend_err {w w1 w2 : World} {Bd g g4 g5 g6 x : Nat} {l : List UInt8} (hp : CPos w w1 g g4 g5 g6) (hk : Kept (K4 w1.heap.size g g4 g5 g6) w1 w2) (hx : lookCe l = .error x) : CEnd w w1 Bd g g4 g5 g6 l (.panicked (brk x)) w2 := by
  obtain ⟨h1, h2, h3⟩ := cend_low hp hk
  exact ⟨⟨h1, fun r t h => by rw [hx] at h; cases h⟩, h2, h3, .inl ⟨x, by rw [hx]; rfl, rfl⟩⟩
theorem kept_eye {Z g g4 g5 g6 : Nat} {w1 w w' : World} (hk : Kept (K4 Z g g4 g5 g6) w1 w) (hz : Z ≤ w.heap.size) {q : Nat} (hg : w.grownBy w' (some q)) (hq : q = g ∨ q = g4 ∨ q = g5 ∨ q = g6) : Kept (K4 Z g g4 g5 g6) w1 w' :=
  hk.trans (Kept.of_grown hg (fun k hK => ⟨by have := hK.1; omega, fun e => by injection e with e; obtain ⟨_, a, b, c, d⟩ := hK; rcases hq with h | h | h | h <;> omega⟩))
theorem cert_setv {u v : Value} : (certV v noCer).set 37 u = certV u noCer := rfl
set_option maxRecDepth 100000 in
set_option maxHeartbeats 4000000 in
theorem cread1_any {Bd g g4 g5 g6 : Nat} {l : List UInt8} (w w1 : World) (hp : CPos w w1 g g4 g5 g6) (hb4 : Blk w g4 59 (certV (.slice none 0 0) noCer)) (hb5 : Blk w g5 36 [.slice none 0 0]) (hb6 : Blk w g6 36 [.slice none 0 0]) (he : EyeAt w1 (w.heap.size + 1) Bd g l) :
    Calls Try.prog 76 (#[.pointer (some ⟨g, 0, none⟩)] ++ #[.pointer (some ⟨g5, 0, none⟩), .pointer (some ⟨g4, 0, none⟩), .pointer (some ⟨g6, 0, none⟩)]) w1 fun e w2 => CEnd w w1 Bd g g4 g5 g6 l e w2 := by
  have HPOS := Lib.hid hp
  have HE := Lib.hid he
  have HB4 := Lib.hid (hb4.grow hp.2.2.2.2.2.2); have HB5 := Lib.hid (hb5.grow hp.2.2.2.2.2.2); have HB6 := Lib.hid (hb6.grow hp.2.2.2.2.2.2)
  obtain ⟨Z, hZ⟩ : ∃ z, z = w1.heap.size := ⟨_, rfl⟩
  have HZ := Lib.hid hZ
  have HK := Lib.hid (show Kept (K4 w1.heap.size g g4 g5 g6) w1 w1 from Kept.refl _ _)
  have HNUM := Lib.hid (show g4 < g5 ∧ g5 < g6 ∧ g6 < w.heap.size ∧ w.heap.size < g ∧ w.heap.size < Z ∧ g < Z by obtain ⟨a, b, c, d, e, f, _⟩ := hp; rw [hZ]; exact ⟨a, b, c, d, e, f⟩)
  rw [← hZ] at HK
  have HBD := Lib.hid (show Bd ≤ Z by have := he.bd; rw [hZ]; exact this.2)
  have HERR := Lib.hid (fun (x : Nat) (w2 : World) (hk : Kept (K4 Z g g4 g5 g6) w1 w2) (hx : lookCe l = .error x) => cend_err (Bd := Bd) hp (by rw [← hZ]; exact hk) hx)
  obtain ⟨zc, hzc⟩ : ∃ v, v = certV (.slice none 0 0) noCer := ⟨_, rfl⟩
  have HZC := Lib.hid hzc
  rw [← hzc] at HB4
  obtain ⟨res, hres⟩ : ∃ r, r = lookCe l := ⟨_, rfl⟩
  have HRES := Lib.hid hres
  unfold lookCe at hres
  have HR := Lib.hid hres
  clear hp hb4 hb5 hb6 he hZ hzc hres
  show Calls Try.prog 76 #[.pointer (some ⟨g, 0, none⟩), .pointer (some ⟨g5, 0, none⟩), .pointer (some ⟨g4, 0, none⟩), .pointer (some ⟨g6, 0, none⟩)] w1 _
  go_enter Try.func76, Try.ntmps76
  go_wp2_with fail
  refine (etext_any (most := 100) _ HE.out (by omega)).mono ?_
  rintro e w2_ ⟨hg_, ⟨x, hx_, rfl⟩ | ⟨eb, l1, A5, c5, hx_, rfl, ho_, hc_, hE_⟩⟩
  · have HK_ := Lib.hid (kept_eye HK.out (by rw [HZ.out]; exact HK.out.size) hg_ (.inl rfl))
    have HX := Lib.hid (show lookCe l = .error x by rw [← HRES.out, HR.out, hx_])
    clear hg_ hx_
    go_wp2_with fail
    exact ⟨by first | trivial | rfl, HERR.out x _ HK_.out HX.out⟩
  have HR_ := HR.out
  rw [hx_] at HR_
  simp only at HR_
  replace HR := Lib.hid HR_
  clear HR_ hx_
  have HK_ := Lib.hid (kept_eye HK.out (by rw [HZ.out]; exact HK.out.size) hg_ (.inl rfl))
  have HB4_ := Lib.hid (HB4.out.grown hg_ (fun e => by injection e with e; have := HNUM.out; omega)); have HB5_ := Lib.hid (HB5.out.grown hg_ (fun e => by injection e with e; have := HNUM.out; omega)); have HB6_ := Lib.hid (HB6.out.grown hg_ (fun e => by injection e with e; have := HNUM.out; omega))
  have HO5 := Lib.hid (show OwnAt w2_ Z A5 eb.length c5 (eb.map B) by rw [HZ.out]; exact ho_)
  have HC5 := Lib.hid hc_
  have HE_ := Lib.hid hE_
  clear hg_ ho_ hc_ hE_ HK HB4 HB5 HB6 HE
  have HK := HK_; have HB4 := HB4_; have HB5 := HB5_; have HB6 := HB6_; have HE := HE_
  clear HK_ HB4_ HB5_ HB6_ HE_
  go_wp2_with (first | (refine wpl_store1 (o := ⟨none, .store _ _ _, _, _, _, _⟩) rfl rfl HB5.out rfl rfl (by kernel_rfl) rfl rfl (by simp) ?_))
  intro w3_ hb2_ hg2_ hsz2_
  have HB5_ := Lib.hid (show Blk w3_ g5 36 [.slice A5 eb.length c5] from hb2_)
  have HK_ := Lib.hid (kept_eye HK.out (by have := HK.out.size; rw [HZ.out]; exact this) hg2_ (.inr (.inr (.inl rfl))))
  have HB4_ := Lib.hid (HB4.out.grown hg2_ (fun e => by injection e with e; have := HNUM.out; omega)); have HB6_ := Lib.hid (HB6.out.grown hg2_ (fun e => by injection e with e; have := HNUM.out; omega))
  have HE_ := Lib.hid (HE.out.off hg2_ (.inl (by have := HNUM.out; omega)))
  have HO5_ := Lib.hid (show OwnAt w3_ Z A5 eb.length c5 (eb.map B) from own_kept HO5.out hg2_ (fun q hq e => by have h1 := own_from HO5.out q (by rw [hq]; rfl); injection e with e; have := HNUM.out; omega))
  clear hb2_ hg2_ hsz2_ HK HB4 HB5 HB6 HE HO5
  have HK := HK_; have HB4 := HB4_; have HB5 := HB5_; have HB6 := HB6_; have HE := HE_; have HO5 := HO5_
  clear HK_ HB4_ HB5_ HB6_ HE_ HO5_
  try clear w2_
  go_wp2_with fail
  refine (enum_any (most := 32) _ HE.out).mono ?_
  rintro e w2_ hr_
  obtain ⟨hg_, ⟨x, hx_, rfl⟩ | ⟨n, l2, hx_, rfl, hE_⟩⟩ := hr_.get
  · have HK_ := Lib.hid (kept_eye HK.out (by have := HK.out.size; rw [HZ.out]; exact this) hg_ (.inl rfl))
    have HX := Lib.hid (show lookCe l = .error x by rw [← HRES.out, HR.out, hx_])
    clear hg_ hx_ hr_
    go_wp2_with fail
    exact ⟨by first | trivial | rfl, HERR.out x _ HK_.out HX.out⟩
  have HR_ := HR.out
  rw [hx_] at HR_
  simp only at HR_
  replace HR := Lib.hid HR_
  have HN32 := Lib.hid (numR_le hx_).1
  clear HR_ hx_ hr_
  have HK_ := Lib.hid (kept_eye HK.out (by have := HK.out.size; rw [HZ.out]; exact this) hg_ (.inl rfl))
  have HB4_ := Lib.hid (HB4.out.grown hg_ (fun e => by injection e with e; have := HNUM.out; omega)); have HB5_ := Lib.hid (HB5.out.grown hg_ (fun e => by injection e with e; have := HNUM.out; omega)); have HB6_ := Lib.hid (HB6.out.grown hg_ (fun e => by injection e with e; have := HNUM.out; omega))
  have HO5_ := Lib.hid (show OwnAt w2_ Z A5 eb.length c5 (eb.map B) from own_kept HO5.out hg_ (fun q hq e => by have h1 := own_from HO5.out q (by rw [hq]; rfl); injection e with e; have := HNUM.out; omega))
  have HE_ := Lib.hid hE_
  clear hg_ hE_ HK HB4 HB5 HB6 HE HO5
  have HKz := HK_; have HB4 := HB4_; have HB5z := HB5_; have HB6z := HB6_; have HE := HE_
  have HS5z := Lib.hid (Sl.of_own HO5_.out)
  have HA5z := Lib.hid (show ∀ k, A5.map Addr.block = some k → Z ≤ k ∧ k < w2_.heap.size from fun k hk => ⟨own_from HO5_.out k hk, own_lt HO5_.out k hk⟩)
  clear HK_ HB4_ HB5_ HB6_ HE_ HO5_
  try clear w3_
  rename World => wz
  obtain ⟨Zp, hZp⟩ : ∃ z, z = wz.heap.size := ⟨_, rfl⟩
  have HZP := Lib.hid hZp
  have HZZ := Lib.hid (show Z ≤ Zp by have := HKz.out.size; rw [hZp, HZ.out]; exact this)
  rw [← hZp] at HA5z
  clear hZp
  have HK2 := Lib.hid (show Kept (K2 Zp g g4) wz wz from Kept.refl _ _)
  have HKJ := Lib.hid (show ∀ w', Kept (K2 Zp g g4) wz w' → Kept (K4 Z g g4 g5 g6) w1 w' from fun w' h => HKz.out.trans (h.mono (fun k hk => ⟨by have := hk.1; have := HZZ.out; omega, hk.2.1, hk.2.2.1⟩)))
  go_wp2_with fail
  go_loopw [9] (fun iv wr => ∃ k : Nat, ∃ A c ds l', k ≤ n ∧ iv = .int .u64 (k : Int) ∧ Hid (idsR k l2 = .ok (ds, l')) ∧ Hid (EyeAt wr (w.heap.size + 1) Bd g l') ∧ Hid (Blk wr g4 59 (certV (.slice A k c) noCer)) ∧ Hid (OwnI wr Zp A k c ds) ∧ Hid (Kept (K2 Zp g g4) wz wr)) (fun iv _ => n - (intOf iv).toNat)
  case atStart => exact ⟨0, none, 0, [], l2, by omega, rfl, Lib.hid rfl, HE, by rw [← HZC.out]; exact HB4, Lib.hid (World.ownsRow_nil _ _ _ _), HK2⟩
  case round =>
    obtain ⟨k, A, c, ds, l', hk, rfl, hI, hE, hB, hO, hK⟩ := hrel
    clear HE HB4 HK2
    have HI := Lib.hid hI.out; have HE := Lib.hid hE.out; have HB4 := Lib.hid hB.out; have HO := Lib.hid hO.out; have HK2 := Lib.hid hK.out
    clear hI hE hB hO hK
    rename World => w_
    have HZW := Lib.hid (show Zp ≤ w_.heap.size by have := HK2.out.size; rw [HZP.out]; exact this)
    by_cases hlt : k < n
    · have HB := Lib.hid (Below.refl w_.heap.size w_)
      have q1 : IntKind.u64.wrap ((k : Int) + 1) = (k : Int) + 1 := by have := HN32.out; rw [IntKind.wrap_u64]; omega
      cases htk : takeR 32 l' with
      | error x =>
        have HEC := Lib.hid (show ∀ w', Drawn w_ w' → Calls Try.prog 72 #[.pointer (some ⟨g, 0, none⟩)] w' (fun e w2_ => e = .panicked (brk x) ∧ CEnd w w1 Bd g g4 g5 g6 l (.panicked (brk x)) w2_) from fun w' hd =>
          (eid_any _ (HE.out.grow hd.grow)).mono fun e w2_ hr => by
            obtain ⟨hg_, ⟨y, hy, rfl⟩ | ⟨d, t, hy, _⟩⟩ := hr.get
            · rw [htk] at hy
              injection hy with hy
              subst hy
              have hk2 : Kept (K2 Zp g g4) wz w' := HK2.out.trans (Kept.of_grow hd.grow (fun j hj => by have := hj.1; have := HZW.out; omega))
              have h1 : idsR (k + 1) l2 = .error x := by rw [idsR, HI.out]; simp only; rw [htk]
              have h2 := idsR_err h1 (n - (k + 1))
              rw [show k + 1 + (n - (k + 1)) = n by omega] at h2
              exact ⟨rfl, HERR.out x _ (kept_eye (HKJ.out _ hk2) (by have := HZW.out; have := HZZ.out; have := hd.grow.size; omega) hg_ (.inl rfl)) (by rw [← HRES.out, HR.out, h2])⟩
            · rw [htk] at hy; cases hy)
        have cp := HB4.out.at_ (cert_v (v := .slice A k c) noCer_ok)
        clear htk q1
        go_upto_region 3 with fail
        refine wp_region_any (by kernel_rfl) ?_
        change wpAny _ _ _ _ _ _ _ (World.drew _)
        refine wpAny_take (i := 0) (v := ?_) rfl (by kernel_rfl) (by kernel_rfl) (by kernel_rfl) (fun _ _ _ h => h) (Or.inl ⟨by rfl, ?_⟩) ?_
        rotate_left
        · intro w
          go_simp
          try with_reducible rfl
        refine wpAny_take (i := 2) (v := ?_) rfl (by kernel_rfl) (by kernel_rfl) (by kernel_rfl) (fun _ _ _ h => h) (Or.inl ⟨by rfl, ?_⟩) ?_
        rotate_left
        · intro w
          go_simp
          try with_reducible rfl
        refine wpAny_ready (rs := [1, 3]) (by kernel_rfl) (by simp) ?_
        refine AllReady.cons rfl (fun K hK => ?_) (AllReady.cons rfl (fun K hK => ?_) AllReady.nil)
        · go_simp
          refine hK _ _ ?_
          clear hK K
          refine wpAny_ready (rs := [3]) (by kernel_rfl) (by simp) ?_
          refine AllReady.cons rfl (fun K hK => ?_) AllReady.nil
          go_simp
          go_wp2_with (go_at_call 72; refine (HEC.out _ ?_).mono ?_; exact ⟨_, rfl⟩; rintro e w3_ ⟨rfl, hend_⟩; (have HEND := Lib.hid hend_); clear hend_)
          go_wp2_with fail
          exact ⟨by first | trivial | rfl, HEND.out⟩
        · skip
          go_simp
          go_wp2_with (go_at_call 72; refine (HEC.out _ ?_).mono ?_; exact ⟨_, rfl⟩; rintro e w3_ ⟨rfl, hend_⟩; (have HEND := Lib.hid hend_); clear hend_)
          go_wp2_with fail
          exact ⟨by first | trivial | rfl, HEND.out⟩
      | ok pr =>
      obtain ⟨d0, l0⟩ := pr
      have HTK := Lib.hid htk
      clear htk
      try go_wp2_with fail
      repeat' (first | (with_reducible refine wp_plan (id := 3) (fun a b => a.grownBy b (some g)) [0,1,0,4,4,3,0,3] (.get 0 (.get 1 (.get 2 (.act 3 (.act 4 (.act 5 (.get 6 (.act 7 .done)))))))) (by kernel_rfl) (by kernel_rfl) (fun a => grownBy_refl a _) (fun _ _ _ h k => grownBy_trans h k) ?_) | go_values | go_skip | go_guarded | go_step | go_upon | go_back)
      intro w_ hd_
      have hb_ := hd_.grow
      have HB_ := Lib.hid (HB.out.grow' hb_)
      clear HB
      have HB := HB_
      clear HB_
      have HE_ := Lib.hid (HE.out.grow hb_)
      clear HE
      have HE := HE_
      clear HE_
      have HB4_ := Lib.hid (HB4.out.grow hb_)
      clear HB4
      have HB4 := HB4_
      clear HB4_
      have HO_ := Lib.hid (HO.out.grow hb_)
      clear HO
      have HO := HO_
      clear HO_
      clear hb_ hd_
      have HK2_ := Lib.hid (HK2.out.trans (Kept.of_grow HB.out (fun j hj => by have := hj.1; have := HZW.out; omega)))
      have HZW_ := Lib.hid (Nat.le_trans HZW.out HB.out.size)
      clear HK2 HZW HB
      have HK2 := HK2_; have HZW := HZW_
      clear HK2_ HZW_
      repeat (first | (refine pl_calm rfl rfl (by first | exact wanted_none rfl | (go_simp; done) | rfl) (fun w_ => by first | (go_simp; rfl) | (go_simp; done) | rfl) (fun K hK => ?_); go_simp; refine hK _ _ ?_; clear hK K) | (refine pl_skip rfl (by first | (go_simp; done) | rfl) (fun K hK => ?_); go_simp; refine hK _ _ ?_; clear hK K) | (refine pl_skipa rfl (by first | (go_simp; done) | rfl) (fun K hK => ?_); go_simp; refine hK _ _ ?_; clear hK K))
      refine pl_read rfl rfl (by exact wanted_none rfl) (v := .slice A k c) (fun w3_ hf_ => by have c9 := (HB4.out.grown hf_ (fun e => by injection e with e; have := HNUM.out; omega)).at_ (cert_v (v := .slice A k c) noCer_ok); first | (go_simp; rfl) | (go_simp; done)) (fun K hK => ?_)
      go_simp
      refine hK _ _ ?_
      clear hK K
      repeat (first | (refine pl_calm rfl rfl (by first | exact wanted_none rfl | (go_simp; done) | rfl) (fun w_ => by first | (go_simp; rfl) | (go_simp; done) | rfl) (fun K hK => ?_); go_simp; refine hK _ _ ?_; clear hK K) | (refine pl_skip rfl (by first | (go_simp; done) | rfl) (fun K hK => ?_); go_simp; refine hK _ _ ?_; clear hK K) | (refine pl_skipa rfl (by first | (go_simp; done) | rfl) (fun K hK => ?_); go_simp; refine hK _ _ ?_; clear hK K))
      refine pl_act rfl (by exact wanted_none rfl) (fun K hK => ?_)
      go_wp2_with fail
      refine (eid_any _ HE.out).mono ?_
      rintro e w2_ hr_
      obtain ⟨hg_, ⟨x, hx_, rfl⟩ | ⟨d, l3, hx_, rfl, hE_⟩⟩ := hr_.get
      · rw [HTK.out] at hx_; cases hx_
      have HI_ := Lib.hid (show idsR (k + 1) l2 = .ok (ds ++ [d], l3) by rw [idsR, HI.out]; simp only; rw [hx_])
      have hd32 := (takeR_le hx_).1
      have HY := Lib.hid (dig_map hd32)
      have HGG := Lib.hid hg_
      have HB4_ := Lib.hid (HB4.out.grown hg_ (fun e => by injection e with e; have := HNUM.out; omega))
      have HO_ := Lib.hid (show OwnI w2_ Zp A k c ds from own_kept HO.out hg_ (fun q hq e => by have h1 := own_from HO.out q (by rw [hq]; rfl); injection e with e; have := HNUM.out; have := HZZ.out; omega))
      have HK2_ := Lib.hid (HK2.out.trans (Kept.of_grown hg_ (fun j hj => ⟨by have := hj.1; have := HZW.out; omega, fun e => by injection e with e; exact hj.2.1 e.symm⟩)))
      have HZW_ := Lib.hid (Nat.le_trans HZW.out hg_.size)
      have HE_ := Lib.hid hE_
      clear hx_ hr_ hE_ HI HE HB4 HO HK2 HZW
      have HI := HI_; have HE := HE_; have HB4 := HB4_; have HO := HO_; have HK2 := HK2_; have HZW := HZW_
      clear HI_ HE_ HB4_ HO_ HK2_ HZW_
      obtain ⟨ys, hys⟩ : ∃ v, v = d.map B := ⟨_, rfl⟩
      have HYE := Lib.hid hys
      rw [← hys] at HY ⊢
      clear hys
      go_wp2_with fail
      refine hK _ _ (fun _ => HGG.out) ?_
      clear hK K hg_ HGG
      try clear w_
      rename World => w_
      have hysl := HY.out.len
      refine pl_act rfl (by exact wanted_none rfl) (fun K hK => ?_)
      go_wp2_with fail
      generalize hw_ : World.alloc w_ _ = w4_
      obtain ⟨hX_, hb_, hs_⟩ := alloc_eq hw_
      generalize hg_ : w_.heap.size = gx at hX_ hs_ ⊢
      refine hK _ _ (fun _ => grown_of_below hb_ _) ?_
      clear hK K hysl
      have HSX := Lib.hid (show Sl w4_ w4_.heap.size 32 (some ⟨gx, 0, none⟩) 1 ys from (show Blk w4_ gx 29 ys by have h := hX_; rw [fold_set _ ys (by rw [HY.out.len]; rfl)] at h; exact h).sl (by rw [HY.out.len]))
      have HB4_ := Lib.hid (HB4.out.grow hb_); have HO_ := Lib.hid (show OwnI w4_ Zp A k c ds from own_below HO.out hb_); have HE_ := Lib.hid (HE.out.grow hb_)
      have HK2_ := Lib.hid (HK2.out.trans (Kept.of_grow hb_ (fun j hj => by have := hj.1; have := HZW.out; omega)))
      have HZW_ := Lib.hid (Nat.le_trans HZW.out hb_.size)
      clear hw_ hX_ hb_ hs_ hg_ HE HB4 HO HK2 HZW
      have HE := HE_; have HB4 := HB4_; have HO := HO_; have HK2 := HK2_; have HZW := HZW_
      clear HE_ HB4_ HO_ HK2_ HZW_
      try clear w_
      rename World => w_
      have HIO := Lib.hid (show w_.ownsRow Zp 29 32 (.slice A k c) k (idCells ds) from HO.out)
      refine pl_act rfl (by first | rfl | (go_simp; done) | rfl) (fun K hK => ?_)
      show wpList _ _ _ [⟨some _, .call _, _, _, _, _⟩] _ _
      have hn32 := HN32.out
      go_wp2_with (at_builtin; refine wpl_apps rfl rfl el_id HIO.out rfl HSX.out rfl HY.out.one (by clear q1; omega) (by clear q1; omega) HZW.out ?_)
      clear hn32
      intro A4 c4 w4_ ho_ hg_ hA_
      have hne_ : ∀ q, A.map Addr.block = some q → Zp ≤ q := own_from HIO.out
      have HB4_ := Lib.hid (HB4.out.grown hg_ (fun e => by have h1 := hne_ _ e.symm; have := HNUM.out; have := HZZ.out; omega))
      have HO_ := Lib.hid (show OwnI w4_ Zp A4 (k + 1) c4 (ds ++ [d]) by unfold OwnI; rw [idCells_snoc, ← HYE.out]; exact ho_)
      have HE_ := Lib.hid (HE.out.keep (fun j hj1 hj2 => hg_.block j (by have := HE.out.bd; omega) (fun e => by have h1 := hne_ _ e.symm; have := HBD.out; have := HZZ.out; omega)) hg_.size)
      have HK2_ := Lib.hid (HK2.out.trans (Kept.of_grown hg_ (fun j hj => ⟨by have := hj.1; have := HZW.out; omega, fun e => by have h1 := hne_ _ e; have := hj.1; omega⟩)))
      have HZW_ := Lib.hid (Nat.le_trans HZW.out hg_.size)
      clear ho_ hg_ hA_ hne_ HE HB4 HO HK2 HZW HIO HSX
      have HE := HE_; have HB4 := HB4_; have HO := HO_; have HK2 := HK2_; have HZW := HZW_
      clear HE_ HB4_ HO_ HK2_ HZW_
      go_wp2_with fail
      refine hK _ _ (fun h => by cases h) ?_
      clear hK K
      try clear w_
      rename World => w_
      repeat (first | (refine pl_calm rfl rfl (by first | exact wanted_none rfl | (go_simp; done) | rfl) (fun w_ => by first | (go_simp; rfl) | (go_simp; done) | rfl) (fun K hK => ?_); go_simp; refine hK _ _ ?_; clear hK K) | (refine pl_skip rfl (by first | (go_simp; done) | rfl) (fun K hK => ?_); go_simp; refine hK _ _ ?_; clear hK K) | (refine pl_skipa rfl (by first | (go_simp; done) | rfl) (fun K hK => ?_); go_simp; refine hK _ _ ?_; clear hK K))
      refine pl_act rfl (by first | rfl | (go_simp; done) | rfl) (fun K hK => ?_)
      show wpList _ _ _ [⟨none, .store _ _ _, _, _, _, _⟩] _ _
      have hcl137 := certV_len (v := .slice A k c) noCer_ok
      go_wp2_with (first | (refine wpl_store1 (o := ⟨none, .store _ _ _, _, _, _, _⟩) rfl rfl HB4.out rfl rfl (by kernel_rfl) rfl rfl (by rw [hcl137]; omega) ?_))
      clear hcl137
      intro w5_ hb2_ hg_ hsz2_
      have HB4_ := Lib.hid (show Blk w5_ g4 59 (certV (.slice A4 (k + 1) c4) noCer) by rw [← cert_setv (v := .slice A k c)]; exact hb2_)
      have HO_ := Lib.hid (show OwnI w5_ Zp A4 (k + 1) c4 (ds ++ [d]) from own_kept HO.out hg_ (fun q hq e => by have h1 := own_from HO.out q (by rw [hq]; rfl); injection e with e; have := HNUM.out; have := HZZ.out; omega))
      have HE_ := Lib.hid (HE.out.off hg_ (.inl (by have := HNUM.out; omega)))
      have HK2_ := Lib.hid (HK2.out.trans (Kept.of_grown hg_ (fun j hj => ⟨by have := hj.1; have := HZW.out; omega, fun e => by injection e with e; exact hj.2.2 e.symm⟩)))
      clear hb2_ hg_ hsz2_ HE HB4 HO HK2 HZW
      go_wp2_with fail
      refine hK _ _ (fun h => by cases h) ?_
      clear hK K
      refine pl_done ?_
      go_wp2_with fail
      go_roundw
      all_goals clear q1
      case rel => exact ⟨k + 1, A4, c4, ds ++ [d], l3, by omega, by first | go_num | simp | rfl, HI, HE_, HB4_, HO_, HK2_⟩
      case measure => simp [intOf]; omega
    · obtain rfl : k = n := by omega
      have HR_ := HR.out
      rw [HI.out] at HR_
      simp only at HR_
      replace HR := Lib.hid HR_
      have hio := idsR_ok _ _ _ _ HI.out
      have HIDS := Lib.hid (show Ids w_ A k c ds from Ids.own HO.out hio.1 hio.2.1 (own_cap HO.out))
      have HAI := Lib.hid (show ∀ q, A.map Addr.block = some q → Zp ≤ q ∧ q < w_.heap.size from fun q hq => ⟨own_from HO.out q hq, own_lt HO.out q hq⟩)
      have HB5 := Lib.hid (HK2.out.blk HB5z.out ⟨by have := HNUM.out; have := HZZ.out; omega, by have := HNUM.out; omega, by have := HNUM.out; omega⟩)
      have HB6 := Lib.hid (HK2.out.blk HB6z.out ⟨by have := HNUM.out; have := HZZ.out; omega, by have := HNUM.out; omega, by have := HNUM.out; omega⟩)
      have HS5 := Lib.hid (sl_keepK HS5z.out (K := K2 Zp g g4) (fun q hq => by have h1 := HA5z.out q hq; have := HNUM.out; exact ⟨by omega, by omega, by omega⟩) HK2.out)
      have HK := Lib.hid (HKJ.out _ HK2.out)
      clear HR_ HI HO HB5z HB6z HS5z HKz HKJ HK2 hio
      rename World => wy
      obtain ⟨Z2, hZ2⟩ : ∃ z, z = wy.heap.size := ⟨_, rfl⟩
      have HZ2 := Lib.hid hZ2
      rw [← hZ2] at HAI HZW
      clear hZ2
      have HK3 := Lib.hid (show Kept (K3 Z2 g g4 g6) wy wy from Kept.refl _ _)
      go_wp2_with fail
      refine (etext_any (most := 100) _ HE.out (by omega)).mono ?_
      rintro e w2_ ⟨hg_, ⟨x, hx_, rfl⟩ | ⟨hb, l4, A6, c6, hx_, rfl, ho_, hc_, hE_⟩⟩
      · have HK_ := Lib.hid (kept_eye HK.out (by have := HZW.out; have := HZZ.out; have := HZ2.out; omega) hg_ (.inl rfl))
        have HX := Lib.hid (show lookCe l = .error x by rw [← HRES.out, HR.out, hx_])
        clear hg_ hx_
        go_wp2_with fail
        exact ⟨by first | trivial | rfl, HERR.out x _ HK_.out HX.out⟩
      have HR_ := HR.out
      rw [hx_] at HR_
      simp only at HR_
      replace HR := Lib.hid HR_
      clear HR_ hx_
      have HK_ := Lib.hid (kept_eye HK.out (by have := HZW.out; have := HZZ.out; have := HZ2.out; omega) hg_ (.inl rfl))
      have HK3_ := Lib.hid (HK3.out.trans (Kept.of_grown hg_ (fun j hj => ⟨by have := hj.1; have := HZ2.out; omega, fun e => by injection e with e; exact hj.2.1 e.symm⟩)))
      have HB4_ := Lib.hid (HB4.out.grown hg_ (fun e => by injection e with e; have := HNUM.out; omega)); have HB6_ := Lib.hid (HB6.out.grown hg_ (fun e => by injection e with e; have := HNUM.out; omega))
      have HO6 := Lib.hid (show OwnAt w2_ Z2 A6 hb.length c6 (hb.map B) by rw [HZ2.out]; exact ho_)
      have HE_ := Lib.hid hE_
      have HZW2 := Lib.hid (show Z2 ≤ w2_.heap.size by rw [HZ2.out]; exact hg_.size)
      clear hg_ ho_ hc_ hE_ HK HK3 HB4 HB6 HE
      have HK := HK_; have HK3 := HK3_; have HB4 := HB4_; have HB6 := HB6_; have HE := HE_
      clear HK_ HK3_ HB4_ HB6_ HE_
      go_wp2_with (first | (refine wpl_store1 (o := ⟨none, .store _ _ _, _, _, _, _⟩) rfl rfl HB6.out rfl rfl (by kernel_rfl) rfl rfl (by simp) ?_))
      intro w3_ hb2_ hg2_ hsz2_
      have HB6_ := Lib.hid (show Blk w3_ g6 36 [.slice A6 hb.length c6] from hb2_)
      have HK_ := Lib.hid (kept_eye HK.out (by have := HZW.out; have := HZZ.out; have := HZW2.out; omega) hg2_ (.inr (.inr (.inr rfl))))
      have HK3_ := Lib.hid (HK3.out.trans (Kept.of_grown hg2_ (fun j hj => ⟨by have := hj.1; have := HZW2.out; omega, fun e => by injection e with e; exact hj.2.2.2 e.symm⟩)))
      have HB4_ := Lib.hid (HB4.out.grown hg2_ (fun e => by injection e with e; have := HNUM.out; omega))
      have HE_ := Lib.hid (HE.out.off hg2_ (.inl (by have := HNUM.out; omega)))
      have HO6_ := Lib.hid (show OwnAt w3_ Z2 A6 hb.length c6 (hb.map B) from own_kept HO6.out hg2_ (fun q hq e => by have h1 := own_from HO6.out q (by rw [hq]; rfl); injection e with e; have := HNUM.out; have := HZW.out; have := HZZ.out; omega))
      have HZW3 := Lib.hid (show Z2 ≤ w3_.heap.size by have := HZW2.out; omega)
      clear hb2_ hg2_ hsz2_ HK HK3 HB4 HB6 HE HO6 HZW2
      have HK := HK_; have HK3 := HK3_; have HB4 := HB4_; have HB6 := HB6_; have HE := HE_; have HO6 := HO6_
      clear HK_ HK3_ HB4_ HB6_ HE_ HO6_
      try clear w2_
      go_wp2_with fail
      refine (eid_any _ HE.out).mono ?_
      rintro e w2_ hr_
      obtain ⟨hg_, ⟨x, hx_, rfl⟩ | ⟨tg, l5, hx_, rfl, hE_⟩⟩ := hr_.get
      · have HK_ := Lib.hid (kept_eye HK.out (by have := HZW.out; have := HZZ.out; have := HZW3.out; omega) hg_ (.inl rfl))
        have HX := Lib.hid (show lookCe l = .error x by rw [← HRES.out, HR.out, hx_])
        clear hg_ hx_ hr_
        go_wp2_with fail
        exact ⟨by first | trivial | rfl, HERR.out x _ HK_.out HX.out⟩
      have HLK := Lib.hid (show lookCe l = .ok (⟨eb, ds, hb, tg⟩, l5) by rw [← HRES.out, HR.out, hx_])
      have htl := (takeR_le hx_).1
      have HTD := Lib.hid (dig_map htl)
      have HK_ := Lib.hid (kept_eye HK.out (by have := HZW.out; have := HZZ.out; have := HZW3.out; omega) hg_ (.inl rfl))
      have HK3_ := Lib.hid (HK3.out.trans (Kept.of_grown hg_ (fun j hj => ⟨by have := hj.1; have := HZW3.out; omega, fun e => by injection e with e; exact hj.2.1 e.symm⟩)))
      have HB4_ := Lib.hid (HB4.out.grown hg_ (fun e => by injection e with e; have := HNUM.out; omega)); have HB6_ := Lib.hid (HB6.out.grown hg_ (fun e => by injection e with e; have := HNUM.out; omega))
      have HO6_ := Lib.hid (show OwnAt w2_ Z2 A6 hb.length c6 (hb.map B) from own_kept HO6.out hg_ (fun q hq e => by have h1 := own_from HO6.out q (by rw [hq]; rfl); injection e with e; have := HNUM.out; have := HZW.out; have := HZZ.out; omega))
      have HE_ := Lib.hid hE_
      have HZW4 := Lib.hid (Nat.le_trans HZW3.out hg_.size)
      clear hg_ hx_ hr_ hE_ HK HK3 HB4 HB6 HE HO6 HR HRES
      have HK := HK_; have HK3 := HK3_; have HB4 := HB4_; have HB6 := HB6_; have HE := HE_; have HO6 := HO6_
      clear HK_ HK3_ HB4_ HB6_ HE_ HO6_
      have hcl137 := certV_len (v := .slice A k c) noCer_ok
      go_wp2_with (first | (with_reducible refine wpl_storem (o := ⟨none, .store _ _ _, _, _, _, _⟩) (off := 105) rfl rfl row_id HB4.out rfl rfl HTD.out.len (by rw [hcl137]; omega) HTD.out.one ?_))
      clear hcl137
      intro w4_ hb2_ hg2_ hsz2_
      have HB4_ := Lib.hid (show Blk w4_ g4 59 (certV (.slice A k c) ⟨noEnt, ds, noHdr, tg⟩) by have h := splice_c4 (v := .slice A k c) noCer_ok htl; rw [h] at hb2_; exact hb2_)
      have HK_ := Lib.hid (kept_eye HK.out (by have := HZW.out; have := HZZ.out; have := HZW4.out; omega) hg2_ (.inr (.inl rfl)))
      have HK3_ := Lib.hid (HK3.out.trans (Kept.of_grown hg2_ (fun j hj => ⟨by have := hj.1; have := HZW4.out; omega, fun e => by injection e with e; exact hj.2.2.1 e.symm⟩)))
      have HB6_ := Lib.hid (HB6.out.grown hg2_ (fun e => by injection e with e; have := HNUM.out; omega))
      have HE_ := Lib.hid (HE.out.off hg2_ (.inl (by have := HNUM.out; omega)))
      have HO6_ := Lib.hid (show OwnAt w4_ Z2 A6 hb.length c6 (hb.map B) from own_kept HO6.out hg2_ (fun q hq e => by have h1 := own_from HO6.out q (by rw [hq]; rfl); injection e with e; have := HNUM.out; have := HZW.out; have := HZZ.out; omega))
      clear hb2_ hg2_ hsz2_ HK HK3 HB4 HB6 HE HO6
      have HG := Lib.hid (show CGot w4_ (w.heap.size + 1) g4 g5 g6 ⟨eb, ds, hb, tg⟩ from
        ⟨A, k, c, A5, c5, A6, c6, HB4_.out, ids_keepK HIDS.out (K := K3 Z2 g g4 g6) (fun q hq => by have h1 := HAI.out q hq; have := HNUM.out; have := HZZ.out; exact ⟨h1.2, by omega, by omega, by omega⟩) HK3_.out, (fun q hq => by have h1 := HAI.out q hq; have := HNUM.out; have := HZZ.out; omega),
          HK3_.out.blk HB5.out ⟨by have := HNUM.out; have := HZZ.out; have := HZW.out; omega, by have := HNUM.out; omega, by have := HNUM.out; omega, by have := HNUM.out; omega⟩, sl_keepK HS5.out (K := K3 Z2 g g4 g6) (fun q hq => by have h1 := HA5z.out q hq; have := HNUM.out; have := HZW.out; exact ⟨by omega, by omega, by omega, by omega⟩) HK3_.out, (fun q hq => by have h1 := HA5z.out q hq; have := HNUM.out; omega),
          HB6_.out, Sl.of_own HO6_.out, (fun q hq => by have h1 := own_from HO6_.out q hq; have := HNUM.out; have := HZZ.out; have := HZW.out; omega)⟩)
      go_wp2_with fail
      refine bodyPost_end (results_none rfl _ _ _) rfl ?_
      have hkk := HK_.out
      rw [HZ.out] at hkk
      obtain ⟨h1, h2, h3⟩ := cend_low HPOS.out hkk
      exact ⟨⟨h1, fun r t h => by rw [HLK.out] at h; injection h with h; injection h with h4 h5; rw [← h4]; exact HG.out⟩, h2, h3, .inr ⟨l5, by rw [HLK.out]; rfl, rfl, HE_.out⟩⟩
end Go.Proofs.Ytobmldegjajocaa

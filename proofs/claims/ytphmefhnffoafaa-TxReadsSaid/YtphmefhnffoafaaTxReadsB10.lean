/- What the document's eye reads (plain): an error stays. No program in sight. -/
import Derived.Test.YtphmefhnffoafaaTxReadsB9
set_option linter.unusedSimpArgs false
/- What the document's eye reads (plain): an error stays. No program in sight. -/
namespace Go.Proofs.Ytphmefhnffoafaa
set_option linter.unusedVariables false
abbrev YS := List UInt8 × Nat
def stY {α : Type} (f : List UInt8 → Rd α) (z : α) (s : YS) : α × YS :=
  if s.2 ≠ 0 then (z, s) else match f s.1 with
    | .error x => (z, ([], x))
    | .ok (v, t) => (v, (t, 0))
theorem stY_err {α : Type} {f : List UInt8 → Rd α} {z : α} {s : YS} (h : s.2 ≠ 0) : stY f z s = (z, s) := by unfold stY; rw [if_pos h]
theorem stY_no {α : Type} {f : List UInt8 → Rd α} {z : α} {s : YS} {x : Nat} (h : s.2 = 0) (hf : f s.1 = .error x) : stY f z s = (z, ([], x)) := by unfold stY; rw [if_neg (by simpa using h), hf]
theorem stY_ok {α : Type} {f : List UInt8 → Rd α} {z : α} {s : YS} {v : α} {t : List UInt8} (h : s.2 = 0) (hf : f s.1 = .ok (v, t)) : stY f z s = (v, (t, 0)) := by unfold stY; rw [if_neg (by simpa using h), hf]
theorem stY_len {α : Type} {f : List UInt8 → Rd α} {z : α} {s : YS} (hf : ∀ l v t, f l = .ok (v, t) → t.length ≤ l.length) : (stY f z s).2.1.length ≤ s.1.length := by
  unfold stY
  split
  · exact Nat.le_refl _
  · split
    · simp
    · rename_i v t h; exact hf _ _ _ h
def idY (s : YS) := stY (takeR 32) zeroD s
def numY (m : Nat) (s : YS) := stY (numR m) 0 s
def textY (m : Nat) (s : YS) := stY (textR m) [] s
theorem idY_len (s : YS) : (idY s).2.1.length ≤ s.1.length := stY_len (fun l v t h => (takeR_le h).2)
theorem numY_len (m : Nat) (s : YS) : (numY m s).2.1.length ≤ s.1.length := stY_len (fun l v t h => (numR_le h).2.2)
theorem textY_len (m : Nat) (s : YS) : (textY m s).2.1.length ≤ s.1.length := stY_len (fun l v t h => (textR_le h).2)
theorem idY_32 (s : YS) : (idY s).1.length = 32 := by
  unfold idY stY
  split
  · simp [zeroD]
  · split
    · simp [zeroD]
    · rename_i v t h; exact (takeR_le h).1
theorem numY_le (m : Nat) (s : YS) : (numY m s).1 ≤ m ∧ (numY m s).1 ≤ 18446744073709551615 := by
  unfold numY stY
  split
  · simp
  · split
    · simp
    · rename_i v t h; exact ⟨(numR_le h).1, (numR_le h).2.1⟩
theorem textY_le (m : Nat) (s : YS) : (textY m s).1.length ≤ m := by
  unfold textY stY
  split
  · simp
  · split
    · simp
    · rename_i v t h; exact (textR_le h).1
/-- How far it has come: all as P says, or the error that the whole ends with. -/
def Stg (l : List UInt8) (s : YS) (P : List UInt8 → Prop) : Prop := (s.2 = 0 ∧ P s.1) ∨ (s.2 ≠ 0 ∧ lookT l = .error s.2)
theorem Stg.err {l : List UInt8} {s : YS} {P Q : List UInt8 → Prop} (h : Stg l s P) (hs : s.2 ≠ 0) : Stg l s Q := by
  rcases h with h | h
  · exact absurd h.1 hs
  · exact .inr h
/-- One field on. -/
theorem Stg.step {α : Type} {f : List UInt8 → Rd α} {z : α} {l : List UInt8} {s : YS} {P : List UInt8 → Prop} {Q : α → List UInt8 → Prop} (h : Stg l s P) (hz : ∀ x l, f l = .error x → x ≠ 0)
    (hE : ∀ x, P s.1 → f s.1 = .error x → lookT l = .error x) (hO : ∀ v t, P s.1 → f s.1 = .ok (v, t) → Q v t) : Stg l (stY f z s).2 (Q (stY f z s).1) := by
  rcases h with ⟨h1, h2⟩ | ⟨h1, h2⟩
  · cases hf : f s.1 with
    | error x => rw [stY_no h1 hf]; exact .inr ⟨hz x _ hf, hE x h2 hf⟩
    | ok p => obtain ⟨v, t⟩ := p; rw [stY_ok h1 hf]; exact .inl ⟨rfl, hO v t h2 hf⟩
  · rw [stY_err h1]; exact .inr ⟨h1, h2⟩
def P1 (l : List UInt8) (n : Nat) (t : List UInt8) : Prop := numR 16 l = .ok (n, t)
def P2 (l : List UInt8) (n k : Nat) (is : List Inp) (t : List UInt8) : Prop := ∃ t1, numR 16 l = .ok (n, t1) ∧ lookN lookI k t1 = .ok (is, t)
def P2a (l : List UInt8) (n k : Nat) (is : List Inp) (d : List UInt8) (t : List UInt8) : Prop := ∃ t1, P2 l n k is t1 ∧ takeR 32 t1 = .ok (d, t)
def P2b (l : List UInt8) (n k : Nat) (is : List Inp) (d : List UInt8) (x : Nat) (t : List UInt8) : Prop := ∃ t1, P2a l n k is d t1 ∧ numR 15 t1 = .ok (x, t)
def P2c (l : List UInt8) (n k : Nat) (is : List Inp) (d : List UInt8) (x a : Nat) (t : List UInt8) : Prop := ∃ t1, P2b l n k is d x t1 ∧ numR 18446744073709551615 t1 = .ok (a, t)
def P3 (l : List UInt8) (is : List Inp) (m : Nat) (t : List UInt8) : Prop := ∃ n t1, P2 l n n is t1 ∧ numR 16 t1 = .ok (m, t)
def P4 (l : List UInt8) (is : List Inp) (m k : Nat) (os : List Outp) (t : List UInt8) : Prop := ∃ t1, P3 l is m t1 ∧ lookN lookO k t1 = .ok (os, t)
def P4a (l : List UInt8) (is : List Inp) (m k : Nat) (os : List Outp) (d : List UInt8) (t : List UInt8) : Prop := ∃ t1, P4 l is m k os t1 ∧ takeR 32 t1 = .ok (d, t)
def P5 (l : List UInt8) (is : List Inp) (os : List Outp) (t : List UInt8) : Prop := ∃ m, P4 l is m m os t
def P6 (l : List UInt8) (is : List Inp) (os : List Outp) (f : Nat) (t : List UInt8) : Prop := ∃ t1, P5 l is os t1 ∧ numR 18446744073709551615 t1 = .ok (f, t)
def P7 (l : List UInt8) (is : List Inp) (os : List Outp) (f e : Nat) (t : List UInt8) : Prop := lookT l = .ok (⟨is, os, (f : Int), (e : Int)⟩, t)
/-- An error in the inputs ends all. -/
theorem lookT_insE {l t : List UInt8} {n k x : Nat} {is : List Inp} (h : P2 l n k is t) (hk : k < n) (he : lookI t = .error x) : lookT l = .error x := by
  obtain ⟨t1, h1, h2⟩ := h
  have h3 : lookN lookI (k + 1) t1 = .error x := by rw [lookN_snoc, h2]; simp only; rw [he]
  have h4 := lookN_err h3 (n - (k + 1))
  rw [show k + 1 + (n - (k + 1)) = n by omega] at h4
  unfold lookT
  rw [h1]; simp only; rw [h4]
theorem lookT_outE {l t : List UInt8} {m k x : Nat} {is : List Inp} {os : List Outp} (h : P4 l is m k os t) (hk : k < m) (he : lookO t = .error x) : lookT l = .error x := by
  obtain ⟨t1, ⟨n, t0, ⟨t00, h0, h00⟩, h1⟩, h2⟩ := h
  have h3 : lookN lookO (k + 1) t1 = .error x := by rw [lookN_snoc, h2]; simp only; rw [he]
  have h4 := lookN_err h3 (m - (k + 1))
  rw [show k + 1 + (m - (k + 1)) = m by omega] at h4
  unfold lookT
  rw [h0]; simp only; rw [h00]; simp only; rw [h1]; simp only; rw [h4]
theorem st0 (l : List UInt8) : Stg l (l, 0) (fun t => t = l) := .inl ⟨rfl, rfl⟩
theorem st1 {l : List UInt8} : Stg l (numY 16 (l, 0)).2 (P1 l (numY 16 (l, 0)).1) :=
  (st0 l).step (Q := fun v => P1 l v) (fun x l h => numR_err h) (fun x h e => by rw [h] at e; unfold lookT; rw [e]) (fun v t h e => by rw [h] at e; exact e)
theorem st2 {l : List UInt8} {n : Nat} {s : YS} (h : Stg l s (P1 l n)) : Stg l s (P2 l n 0 []) := by
  rcases h with ⟨h1, h2⟩ | h
  · exact .inl ⟨h1, s.1, h2, rfl⟩
  · exact .inr h
theorem st2a {l : List UInt8} {n k : Nat} {is : List Inp} {s : YS} (h : Stg l s (P2 l n k is)) (hk : k < n) : Stg l (idY s).2 (P2a l n k is (idY s).1) :=
  h.step (Q := fun v => P2a l n k is v) (fun x l h => takeR_err h) (fun x h e => lookT_insE h hk (by unfold lookI; rw [e])) (fun v t h e => ⟨_, h, e⟩)
theorem st2b {l : List UInt8} {n k : Nat} {is : List Inp} {d : List UInt8} {s : YS} (h : Stg l s (P2a l n k is d)) (hk : k < n) : Stg l (numY 15 s).2 (P2b l n k is d (numY 15 s).1) :=
  h.step (Q := fun v => P2b l n k is d v) (fun x l h => numR_err h) (fun x h e => by
    obtain ⟨t1, h1, h2⟩ := h
    exact lookT_insE h1 hk (by unfold lookI; rw [h2]; simp only; rw [e])) (fun v t h e => ⟨_, h, e⟩)
theorem st2c {l : List UInt8} {n k : Nat} {is : List Inp} {d : List UInt8} {x : Nat} {s : YS} (h : Stg l s (P2b l n k is d x)) (hk : k < n) : Stg l (numY 18446744073709551615 s).2 (P2c l n k is d x (numY 18446744073709551615 s).1) :=
  h.step (Q := fun v => P2c l n k is d x v) (fun x l h => numR_err h) (fun y h e => by
    obtain ⟨t2, ⟨t1, h1, h2⟩, h3⟩ := h
    exact lookT_insE h1 hk (by unfold lookI; rw [h2]; simp only; rw [h3]; simp only; rw [e])) (fun v t h e => ⟨_, h, e⟩)
theorem st2d {l : List UInt8} {n k : Nat} {is : List Inp} {d : List UInt8} {x a : Nat} {s : YS} (h : Stg l s (P2c l n k is d x a)) (hk : k < n) : Stg l (textY 64 s).2 (P2 l n (k + 1) (is ++ [⟨d, (x : Int), (a : Int), (textY 64 s).1⟩])) :=
  Stg.step (f := textR 64) (z := []) (Q := fun (v : List UInt8) => P2 l n (k + 1) (is ++ [Inp.mk d (x : Int) (a : Int) v])) h (fun x l h => textR_err h) (fun y h e => by
    obtain ⟨t3, ⟨t2, ⟨t1, h1, h2⟩, h3⟩, h4⟩ := h
    exact lookT_insE h1 hk (by unfold lookI; rw [h2]; simp only; rw [h3]; simp only; rw [h4]; simp only; rw [e])) (fun v t h e => by
    obtain ⟨t3, ⟨t2, ⟨t1, ⟨t0, h0, h1⟩, h2⟩, h3⟩, h4⟩ := h
    refine ⟨t0, h0, ?_⟩
    rw [lookN_snoc, h1]; simp only
    have : lookI t1 = .ok (⟨d, (x : Int), (a : Int), v⟩, t) := by unfold lookI; rw [h2]; simp only; rw [h3]; simp only; rw [h4]; simp only; rw [e]
    rw [this])
theorem st3 {l : List UInt8} {n : Nat} {is : List Inp} {s : YS} (h : Stg l s (P2 l n n is)) : Stg l (numY 16 s).2 (P3 l is (numY 16 s).1) :=
  h.step (Q := fun v => P3 l is v) (fun x l h => numR_err h) (fun x h e => by
    obtain ⟨t1, h1, h2⟩ := h
    unfold lookT; rw [h1]; simp only; rw [h2]; simp only; rw [e]) (fun v t h e => ⟨n, _, h, e⟩)
theorem st4 {l : List UInt8} {m : Nat} {is : List Inp} {s : YS} (h : Stg l s (P3 l is m)) : Stg l s (P4 l is m 0 []) := by
  rcases h with ⟨h1, h2⟩ | h
  · exact .inl ⟨h1, s.1, h2, rfl⟩
  · exact .inr h
theorem st4a {l : List UInt8} {m k : Nat} {is : List Inp} {os : List Outp} {s : YS} (h : Stg l s (P4 l is m k os)) (hk : k < m) : Stg l (idY s).2 (P4a l is m k os (idY s).1) :=
  h.step (Q := fun v => P4a l is m k os v) (fun x l h => takeR_err h) (fun x h e => lookT_outE h hk (by unfold lookO; rw [e])) (fun v t h e => ⟨_, h, e⟩)
theorem st4b {l : List UInt8} {m k : Nat} {is : List Inp} {os : List Outp} {d : List UInt8} {s : YS} (h : Stg l s (P4a l is m k os d)) (hk : k < m) : Stg l (numY 18446744073709551615 s).2 (P4 l is m (k + 1) (os ++ [⟨d, ((numY 18446744073709551615 s).1 : Int)⟩])) :=
  Stg.step (f := numR 18446744073709551615) (z := 0) (Q := fun (v : Nat) => P4 l is m (k + 1) (os ++ [Outp.mk d (v : Int)])) h (fun x l h => numR_err h) (fun y h e => by
    obtain ⟨t1, h1, h2⟩ := h
    exact lookT_outE h1 hk (by unfold lookO; rw [h2]; simp only; rw [e])) (fun v t h e => by
    obtain ⟨t1, ⟨t0, h0, h1⟩, h2⟩ := h
    refine ⟨t0, h0, ?_⟩
    rw [lookN_snoc, h1]; simp only
    have : lookO t1 = .ok (⟨d, (v : Int)⟩, t) := by unfold lookO; rw [h2]; simp only; rw [e]
    rw [this])
theorem st5 {l : List UInt8} {m : Nat} {is : List Inp} {os : List Outp} {s : YS} (h : Stg l s (P4 l is m m os)) : Stg l s (P5 l is os) := by
  rcases h with ⟨h1, h2⟩ | h
  · exact .inl ⟨h1, m, h2⟩
  · exact .inr h
theorem st6 {l : List UInt8} {is : List Inp} {os : List Outp} {s : YS} (h : Stg l s (P5 l is os)) : Stg l (numY 18446744073709551615 s).2 (P6 l is os (numY 18446744073709551615 s).1) :=
  h.step (Q := fun v => P6 l is os v) (fun x l h => numR_err h) (fun x h e => by
    obtain ⟨m, t1, ⟨n, t0, ⟨t00, h0, h00⟩, h1⟩, h2⟩ := h
    unfold lookT; rw [h0]; simp only; rw [h00]; simp only; rw [h1]; simp only; rw [h2]; simp only; rw [e]) (fun v t h e => ⟨_, h, e⟩)
theorem st7 {l : List UInt8} {is : List Inp} {os : List Outp} {f : Nat} {s : YS} (h : Stg l s (P6 l is os f)) : Stg l (numY 1099511627776 s).2 (P7 l is os f (numY 1099511627776 s).1) :=
  h.step (Q := fun v => P7 l is os f v) (fun x l h => numR_err h) (fun x h e => by
    obtain ⟨t2, ⟨m, t1, ⟨n, t0, ⟨t00, h0, h00⟩, h1⟩, h2⟩, h3⟩ := h
    unfold lookT; rw [h0]; simp only; rw [h00]; simp only; rw [h1]; simp only; rw [h2]; simp only; rw [h3]; simp only; rw [e]) (fun v t h e => by
    obtain ⟨t2, ⟨m, t1, ⟨n, t0, ⟨t00, h0, h00⟩, h1⟩, h2⟩, h3⟩ := h
    unfold P7 lookT; rw [h0]; simp only; rw [h00]; simp only; rw [h1]; simp only; rw [h2]; simp only; rw [h3]; simp only; rw [e])
/-- The end: what Read says. -/
theorem readY {l : List UInt8} {is : List Inp} {os : List Outp} {f e : Nat} {s : YS} (h : Stg l s (P7 l is os f e)) :
    (s.2 ≠ 0 ∧ readT l = .error s.2) ∨ (s.2 = 0 ∧ s.1 ≠ [] ∧ readT l = .error 3) ∨ (s.2 = 0 ∧ s.1 = [] ∧ (⟨is, os, (f : Int), (e : Int)⟩ : Txn).ok ∧ readT l = if checkT ⟨is, os, (f : Int), (e : Int)⟩ ≠ 0 then .error (checkT ⟨is, os, (f : Int), (e : Int)⟩).toNat else .ok ⟨is, os, (f : Int), (e : Int)⟩) := by
  rcases h with ⟨h1, h2⟩ | ⟨h1, h2⟩
  · by_cases h3 : s.1 = []
    · refine .inr (.inr ⟨h1, h3, (lookT_ok h2).1, ?_⟩)
      unfold readT; rw [h2]; simp only; rw [if_neg (by simpa using h3)]
    · refine .inr (.inl ⟨h1, h3, ?_⟩)
      unfold readT; rw [h2]; simp only; rw [if_pos h3]
  · exact .inl ⟨h1, by unfold readT; rw [h2]⟩
end Go.Proofs.Ytphmefhnffoafaa

/- The document's Take of a digest. -/
namespace Go.Proofs.Ytphmefhnffoafaa
open Go.RowKit Go.Shelf
set_option linter.unusedVariables false
theorem upto_id {l : List UInt8} {i : Nat} {x : UInt8} {k n : Int} {b : Value} (hl : 32 ≤ l.length) (hi : i < 32) (hx : l[i]? = some x) (f : List UInt8 → List Value) (hf : ∀ d, f d = fieldV k n b d) (e : Int) (left : Value) :
    (gotV (f (l.take i ++ List.replicate (32 - i) 0)) e left).set (3 + i) (B x) = gotV (f (l.take (i + 1) ++ List.replicate (32 - (i + 1)) 0)) e left := by
  rw [hf, hf]
  have h0 : (l.take i).length = i := by rw [List.length_take]; omega
  have hr : List.replicate (32 - i) (0 : UInt8) = 0 :: List.replicate (32 - (i + 1)) 0 := by rw [show 32 - i = (32 - (i + 1)) + 1 by omega, List.replicate_succ]
  have e1 : gotV (fieldV k n b (l.take i ++ List.replicate (32 - i) 0)) e left = ([.int .i64 k, .int .u64 n, b] ++ (l.take i).map B) ++ (B 0 :: ((List.replicate (32 - (i + 1)) 0).map B ++ [.int .i64 e, left])) := by
    rw [hr]; simp [gotV, fieldV]
  have e2 : gotV (fieldV k n b (l.take (i + 1) ++ List.replicate (32 - (i + 1)) 0)) e left = ([.int .i64 k, .int .u64 n, b] ++ (l.take i).map B) ++ (B x :: ((List.replicate (32 - (i + 1)) 0).map B ++ [.int .i64 e, left])) := by
    rw [take_snoc hx]; simp [gotV, fieldV]
  have hp : ([.int .i64 k, .int .u64 n, b] ++ (l.take i).map B).length = 3 + i := by simp [h0]; omega
  rw [e1, e2, ← hp]
  simp
set_option maxRecDepth 100000 in
set_option maxHeartbeats 4000000 in
theorem rtake_id {Bd : Nat} {A : Option Addr} {n c : Nat} {l : List UInt8} {m : Int} (w : World) (hs : Sl w Bd 1 A n (l.map B)) (hbd : Bd ≤ w.heap.size) (hc : n ≤ c) (hn : n ≤ 1000000) :
    Calls Try.prog 30 #[.slice A n c, .agg (fieldV 2 m nilS zeroD).toArray] w fun e w' => GotR (takeR 32 l) idF Bd w w' e := by
  have HS := Lib.hid hs
  have HBD := Lib.hid hbd
  clear hbd
  have hln : l.length = n := by have := hs.len; simpa using this
  have HLN := Lib.hid hln
  have HFC := Lib.hid (show Cl 35 (fieldV 2 m nilS zeroD) from fieldV_cl rfl (by simp [zeroD]))
  have IF := Lib.hid (show (fieldV 2 m nilS zeroD)[0]? = some (.int .i64 2) from rfl)
  obtain ⟨fv, hfv⟩ : ∃ v, v = fieldV 2 m nilS zeroD := ⟨_, rfl⟩
  rw [← hfv] at HFC IF ⊢
  obtain ⟨nf, hnf⟩ : ∃ v, v = noF := ⟨_, rfl⟩
  obtain ⟨z0, hz0⟩ : ∃ v, v = gotV noF 0 nilS := ⟨_, rfl⟩
  obtain ⟨gz, hgz⟩ : ∃ v, v = gotV noF 2 nilS := ⟨_, rfl⟩
  have HGZ := Lib.hid (show Cl 37 gz by rw [hgz]; exact gotV_cl noF_cl rfl)
  have TE := Lib.hid (show Try.prog.built 77 [(1, .int .i64 2)] = some gz.toArray by rw [hgz]; exact bt_gote)
  have HZE := Lib.hid hgz
  obtain ⟨w_, hw⟩ : ∃ x, x = w := ⟨_, rfl⟩
  have HB := Lib.hid (show Below w.heap.size w w_ by rw [hw]; exact Below.refl _ _)
  suffices H : Calls Try.prog 30 #[.slice A n c, .agg fv.toArray] w_ fun e w' => GotR (takeR 32 l) idF Bd w w' e by rw [hw] at H; exact H
  clear hw hs hln hfv hnf hz0 hgz
  by_cases h32 : n < 32
  · have d1 : decide ((n : Int) < 32) = true := by simp; omega
    go_enter Try.func30, Try.ntmps30
    go_wp2_with (first | (with_reducible refine wpl_box (o := ⟨some 3, _, _, _, _, _⟩) rfl rfl rfl ?_))
    intro w2_ hb2_ hb_ hsz2_
    have HX_ := Lib.hid (at_mk hb2_ HFC.out.len)
    clear hb2_ hsz2_
    have HG_ := Lib.hid HB.out.size
    have HB_ := Lib.hid (HB.out.grow' hb_)
    clear HB
    have HB := HB_
    clear HB_
    generalize hg_ : w_.heap.size = g3 at HX_ HG_ ⊢
    clear hg_
    have HF_g := HG_
    clear HG_
    have HF := HX_
    clear hb_ HX_
    try clear w_
    rename World => w_
    go_wp2_with (first | (with_reducible refine wpl_alloc (o := ⟨some 4, _, _, _, _, _⟩) rfl rfl zero_got ?_))
    intro w2_ hb2_ hb_ hsz2_
    have HX_ := Lib.hid (at_mk hb2_ len_got)
    clear hb2_ hsz2_
    have HG_ := Lib.hid HB.out.size
    have HB_ := Lib.hid (HB.out.grow' hb_)
    clear HB
    have HB := HB_
    clear HB_
    have HF_ := Lib.hid (HF.out.grow hb_)
    clear HF
    have HF := HF_
    clear HF_
    generalize hg_ : w_.heap.size = g4 at HX_ HG_ ⊢
    clear hg_
    have HV_g := HG_
    clear HG_
    have HV := HX_
    clear hb_ HX_
    try clear w_
    rename World => w_
    have c0 := HF.out.blk.at_ IF.out
    go_wp2_with (first | (with_reducible refine wpl_stop (o := ⟨some 17, _, _, _, _, _⟩) ?_))
    refine stop_go ?_
    refine wpl_build rfl rfl TE.out ?_
    go_wp2_with (first | (with_reducible refine wpl_storeb (o := ⟨none, .store _ _ _, _, _, _, _⟩) rfl rfl row_got HV.out.blk rfl rfl HV.out.len HGZ.out.len HGZ.out.one ?_))
    intro w2_ hb2_ hg2_ hsz2_
    have HB_ := Lib.hid (put_below HB.out HV_g.out hg2_)
    have HX_ := Lib.hid (at_mk hb2_ HGZ.out.len)
    clear hb2_ hg2_ hsz2_ HB HV
    have HB := HB_
    have HV := HX_
    clear HB_ HX_
    try clear w_
    rename World => w_
    clear c0
    go_wp2_with fail
    refine ret_cell rfl row_got HV.out.blk rfl HV.out.len rfl ?_
    exact .err (x := 2) (by unfold takeR; rw [if_neg (by have := HLN.out; omega)]) (by rw [HZE.out]; rfl) HB.out
  · have d1 : decide ((n : Int) < 32) = false := by simp; omega
    obtain ⟨b, off, hA, hb, hcell⟩ := HS.out.2 (by omega)
    subst hA
    have HCELL := Lib.hid hcell
    have HC := Lib.hid hc
    clear hcell hb
    by_cases h : c = 32
    · subst h
      obtain rfl : n = 32 := by omega
      have HF2 := Lib.hid (show Cl 35 (fieldV 2 0 nilS zeroD) from fieldV_cl rfl (by simp [zeroD]))
      have TF := Lib.hid (bt_fldk (k := 2))
      have TG := Lib.hid (bt_got (A := (some ⟨b, off, none⟩)) (n := 0) (c := 0) HF2.out)
      obtain ⟨f2, hf2⟩ : ∃ v, v = fieldV 2 0 nilS zeroD := ⟨_, rfl⟩
      rw [← hf2] at HF2 TF TG
      obtain ⟨g2, hg2⟩ : ∃ v, v = gotV f2 0 (.slice (some ⟨b, off, none⟩) 0 0) := ⟨_, rfl⟩
      have HG2 := Lib.hid (show Cl 37 g2 by rw [hg2]; exact gotV_cl HF2.out rfl)
      have HG2E := Lib.hid (show g2 = gotV (fieldV 2 0 nilS (l.take 0 ++ List.replicate (32 - 0) 0)) 0 (.slice (some ⟨b, off, none⟩) 0 0) by rw [hg2, hf2]; rfl)
      rw [← hg2] at TG
      clear hf2 hg2
      go_enter Try.func30, Try.ntmps30
      go_wp2_with (first | (with_reducible refine wpl_box (o := ⟨some 3, _, _, _, _, _⟩) rfl rfl rfl ?_))
      intro w2_ hb2_ hb_ hsz2_
      have HX_ := Lib.hid (at_mk hb2_ HFC.out.len)
      clear hb2_ hsz2_
      have HG_ := Lib.hid HB.out.size
      have HB_ := Lib.hid (HB.out.grow' hb_)
      clear HB
      have HB := HB_
      clear HB_
      generalize hg_ : w_.heap.size = g3 at HX_ HG_ ⊢
      clear hg_
      have HF_g := HG_
      clear HG_
      have HF := HX_
      clear hb_ HX_
      try clear w_
      rename World => w_
      go_wp2_with (first | (with_reducible refine wpl_alloc (o := ⟨some 4, _, _, _, _, _⟩) rfl rfl zero_got ?_))
      intro w2_ hb2_ hb_ hsz2_
      have HX_ := Lib.hid (at_mk hb2_ len_got)
      clear hb2_ hsz2_
      have HG_ := Lib.hid HB.out.size
      have HB_ := Lib.hid (HB.out.grow' hb_)
      clear HB
      have HB := HB_
      clear HB_
      have HF_ := Lib.hid (HF.out.grow hb_)
      clear HF
      have HF := HF_
      clear HF_
      generalize hg_ : w_.heap.size = g4 at HX_ HG_ ⊢
      clear hg_
      have HV_g := HG_
      clear HG_
      have HV := HX_
      clear hb_ HX_
      try clear w_
      rename World => w_
      have c0 := HF.out.blk.at_ IF.out
      go_wp2_with (first | (with_reducible refine wpl_stop (o := ⟨some 18, _, _, _, _, _⟩) ?_))
      refine stop_go ?_
      refine wpl_build rfl rfl TF.out ?_
      go_wp2_with (first | (with_reducible refine wpl_stop (o := ⟨some 21, _, _, _, _, _⟩) ?_))
      refine stop_go ?_
      refine wpl_build rfl rfl TG.out ?_
      go_wp2_with (first | (with_reducible refine wpl_alloc (o := ⟨some 5, _, _, _, _, _⟩) rfl rfl zero_got ?_))
      intro w2_ hb2_ hb_ hsz2_
      obtain ⟨g5, hg5⟩ : ∃ q, q = w_.heap.size := ⟨_, rfl⟩
      have H5 := Lib.hid (at_mk hb2_ len_got)
      have H5_g := Lib.hid HB.out.size
      rw [← hg5] at H5 H5_g ⊢
      have H54 := Lib.hid (show g5 ≠ g4 by have := HV.out.lt; omega)
      clear hb2_ hsz2_ hg5 c0
      have HB_ := Lib.hid (HB.out.grow' hb_)
      have HV_ := Lib.hid (HV.out.grow hb_)
      clear HB HV HF hb_
      have HB := HB_; have HV := HV_
      clear HB_ HV_
      try clear w_
      rename World => w_
      go_wp2_with (first | (with_reducible refine wpl_storeb (o := ⟨none, .store _ _ _, _, _, _, _⟩) rfl rfl row_got H5.out.blk rfl rfl H5.out.len HG2.out.len HG2.out.one ?_))
      intro w2_ hb2_ hg2_ hsz2_
      have HB_ := Lib.hid (put_below HB.out H5_g.out hg2_)
      have HV_ := Lib.hid (show At w2_ g4 77 37 (gotV noF 0 nilS) from ⟨Blk.grown HV.out.blk hg2_ (fun e => H54.out (by injection e with e; exact e.symm)), HV.out.len⟩)
      have H5_ := Lib.hid (at_mk hb2_ HG2.out.len)
      rw [HG2E.out] at H5_
      clear hb2_ hg2_ hsz2_ HB HV H5 HG2
      go_wp2_with fail
      go_loopw [6] (fun iv wr => ∃ i : Nat, i ≤ 32 ∧ iv = .int .i64 i ∧ Hid (At wr g5 77 37 (gotV (fieldV 2 0 nilS (l.take i ++ List.replicate (32 - i) 0)) 0 (.slice (some ⟨b, off, none⟩) 0 0)) ∧ At wr g4 77 37 (gotV noF 0 nilS) ∧ Below w.heap.size w wr)) (fun iv _ => 32 - (intOf iv).toNat)
      case atStart => exact ⟨0, by omega, rfl, Lib.hid ⟨H5_.out, HV_.out, HB_.out⟩⟩
      case round =>
        obtain ⟨i, hi, rfl, hI⟩ := hrel
        have H5 := Lib.hid hI.out.1; have HV := Lib.hid hI.out.2.1; have HB := Lib.hid hI.out.2.2
        clear hI H5_ HV_ HB_
        by_cases hlt : i < 32
        · obtain ⟨x, hx⟩ : ∃ x, l[i]? = some x := ⟨l[i]'(by have := HLN.out; omega), List.getElem?_eq_getElem _⟩
          have hbc := bcell HB.out (HCELL.out i (B x) (by rw [List.getElem?_map, hx]; rfl))
          have HX := Lib.hid (upto_id (by have := HLN.out; omega) hlt hx (fun d => fieldV 2 0 nilS d) (fun d => rfl) 0 (.slice (some ⟨b, off, none⟩) 0 0))
          have v3 : IntKind.i64.wrap ((i : Int) + 1) = (i : Int) + 1 := IntWalk.i64_in _ (by omega)
          have v4 : RowKit.wrap64 ((i : Int) + 1) = (i : Int) + 1 := wrap64_in _ (by omega)
          obtain ⟨bx, hbx⟩ : ∃ v, v = B x := ⟨_, rfl⟩
          have HCE := Lib.hid (show bx.cells = #[bx] ∧ bx.oneCell' = true by rw [hbx]; exact ⟨rfl, rfl⟩)
          rw [← hbx] at hbc HX
          clear hbx hx
          go_wp2_with (first | (refine wpl_store1 (o := ⟨none, .store _ _ _, _, _, _, _⟩) rfl rfl H5.out.blk rfl rfl (by kernel_rfl) HCE.out.1 HCE.out.2 (by first | (rw [H5.out.len]; omega) | fail) ?_))
          intro w2_ hb2_ hg2_ hsz2_
          have HB_ := Lib.hid (put_below HB.out H5_g.out hg2_)
          have HV_ := Lib.hid (show At w2_ g4 77 37 (gotV noF 0 nilS) from ⟨Blk.grown HV.out.blk hg2_ (fun e => H54.out (by injection e with e; exact e.symm)), HV.out.len⟩)
          have H5_ := Lib.hid (show At w2_ g5 77 37 (gotV (fieldV 2 0 nilS (l.take (i + 1) ++ List.replicate (32 - (i + 1)) 0)) 0 (.slice (some ⟨b, off, none⟩) 0 0)) from at_mk (by rw [← HX.out]; exact hb2_) (by rw [← HX.out, List.length_set]; exact H5.out.len))
          clear hb2_ hg2_ hsz2_ HB HV H5
          go_wp2_with fail
          go_roundw
          case rel => exact ⟨i + 1, by omega, by go_num, Lib.hid ⟨H5_.out, HV_.out, HB_.out⟩⟩
          case measure => simp [intOf]; omega
        · obtain rfl : i = 32 := by omega
          rename World => w_
          have HH5 := Lib.hid (show At w_ g5 77 37 (gotV (fieldV 2 0 nilS (l.take 32)) 0 (.slice (some ⟨b, off, none⟩) 0 0)) by have h := H5.out; simp only [Nat.sub_self, List.replicate_zero, List.append_nil] at h; exact h)
          have HCF := Lib.hid (show Cl 35 (fieldV 2 0 nilS (l.take 32)) from fieldV_cl rfl (by rw [List.length_take]; have := HLN.out; omega))
          have HCO := Lib.hid (show Cl 37 (gotV (fieldV 2 0 nilS (l.take 32)) 0 (.slice (some ⟨b, off, none⟩) 0 0)) from gotV_cl HCF.out rfl)
          obtain ⟨ov, hov⟩ : ∃ v, v = gotV (fieldV 2 0 nilS (l.take 32)) 0 (.slice (some ⟨b, off, none⟩) 0 0) := ⟨_, rfl⟩
          have HOV := Lib.hid hov
          rw [← hov] at HH5 HCO
          clear hov H5
          go_wp2_with (first | (with_reducible refine wpl_loadb (o := ⟨some 34, _, _, _, _, _⟩) rfl rfl row_got HH5.out.blk rfl HH5.out.len ?_) | (with_reducible refine wpl_storeb (o := ⟨none, .store _ _ _, _, _, _, _⟩) rfl rfl row_got HV.out.blk rfl rfl HV.out.len HCO.out.len HCO.out.one ?_))
          intro w2_ hb2_ hg2_ hsz2_
          have HB_ := Lib.hid (put_below HB.out HV_g.out hg2_)
          have HV_ := Lib.hid (at_mk hb2_ HCO.out.len)
          clear hb2_ hg2_ hsz2_ HB HV HH5
          go_wp2_with fail
          refine ret_cell rfl row_got HV_.out.blk rfl HV_.out.len rfl ?_
          have hdl : (l.drop 32).length = 0 := by rw [List.length_drop, HLN.out]
          refine .ok (v := l.take 32) (t := l.drop 32) (A := (some ⟨b, off, none⟩)) (c := 0) (by unfold takeR; rw [if_pos (by have := HLN.out; omega)]) (by rw [HOV.out, hdl]) HCF.out rfl ?_ (by rw [hdl]; omega) HB_.out
          rw [hdl, List.map_drop]
          have h9 := (HS.out.from1 (k := 32) (by omega) HC.out).below (HB_.out.mono HBD.out)
          exact (by simpa using h9)
    · have hcf : (c = 32) = False := eq_false h
      have v1 : ((n : Int) - 32).toNat = n - 32 := by omega
      have HF2 := Lib.hid (show Cl 35 (fieldV 2 0 nilS zeroD) from fieldV_cl rfl (by simp [zeroD]))
      have TF := Lib.hid (bt_fldk (k := 2))
      have TG := Lib.hid (bt_got (A := (some ⟨b, off + 32, none⟩)) (n := (n - 32)) (c := (c - 32)) HF2.out)
      obtain ⟨f2, hf2⟩ : ∃ v, v = fieldV 2 0 nilS zeroD := ⟨_, rfl⟩
      rw [← hf2] at HF2 TF TG
      obtain ⟨g2, hg2⟩ : ∃ v, v = gotV f2 0 (.slice (some ⟨b, off + 32, none⟩) (n - 32) (c - 32)) := ⟨_, rfl⟩
      have HG2 := Lib.hid (show Cl 37 g2 by rw [hg2]; exact gotV_cl HF2.out rfl)
      have HG2E := Lib.hid (show g2 = gotV (fieldV 2 0 nilS (l.take 0 ++ List.replicate (32 - 0) 0)) 0 (.slice (some ⟨b, off + 32, none⟩) (n - 32) (c - 32)) by rw [hg2, hf2]; rfl)
      rw [← hg2] at TG
      clear hf2 hg2
      go_enter Try.func30, Try.ntmps30
      go_wp2_with (first | (with_reducible refine wpl_box (o := ⟨some 3, _, _, _, _, _⟩) rfl rfl rfl ?_))
      intro w2_ hb2_ hb_ hsz2_
      have HX_ := Lib.hid (at_mk hb2_ HFC.out.len)
      clear hb2_ hsz2_
      have HG_ := Lib.hid HB.out.size
      have HB_ := Lib.hid (HB.out.grow' hb_)
      clear HB
      have HB := HB_
      clear HB_
      generalize hg_ : w_.heap.size = g3 at HX_ HG_ ⊢
      clear hg_
      have HF_g := HG_
      clear HG_
      have HF := HX_
      clear hb_ HX_
      try clear w_
      rename World => w_
      go_wp2_with (first | (with_reducible refine wpl_alloc (o := ⟨some 4, _, _, _, _, _⟩) rfl rfl zero_got ?_))
      intro w2_ hb2_ hb_ hsz2_
      have HX_ := Lib.hid (at_mk hb2_ len_got)
      clear hb2_ hsz2_
      have HG_ := Lib.hid HB.out.size
      have HB_ := Lib.hid (HB.out.grow' hb_)
      clear HB
      have HB := HB_
      clear HB_
      have HF_ := Lib.hid (HF.out.grow hb_)
      clear HF
      have HF := HF_
      clear HF_
      generalize hg_ : w_.heap.size = g4 at HX_ HG_ ⊢
      clear hg_
      have HV_g := HG_
      clear HG_
      have HV := HX_
      clear hb_ HX_
      try clear w_
      rename World => w_
      have c0 := HF.out.blk.at_ IF.out
      go_wp2_with (first | (with_reducible refine wpl_stop (o := ⟨some 18, _, _, _, _, _⟩) ?_))
      refine stop_go ?_
      refine wpl_build rfl rfl TF.out ?_
      go_wp2_with (first | (with_reducible refine wpl_stop (o := ⟨some 21, _, _, _, _, _⟩) ?_))
      refine stop_go ?_
      refine wpl_build rfl rfl TG.out ?_
      go_wp2_with (first | (with_reducible refine wpl_alloc (o := ⟨some 5, _, _, _, _, _⟩) rfl rfl zero_got ?_))
      intro w2_ hb2_ hb_ hsz2_
      obtain ⟨g5, hg5⟩ : ∃ q, q = w_.heap.size := ⟨_, rfl⟩
      have H5 := Lib.hid (at_mk hb2_ len_got)
      have H5_g := Lib.hid HB.out.size
      rw [← hg5] at H5 H5_g ⊢
      have H54 := Lib.hid (show g5 ≠ g4 by have := HV.out.lt; omega)
      clear hb2_ hsz2_ hg5 c0
      have HB_ := Lib.hid (HB.out.grow' hb_)
      have HV_ := Lib.hid (HV.out.grow hb_)
      clear HB HV HF hb_
      have HB := HB_; have HV := HV_
      clear HB_ HV_
      try clear w_
      rename World => w_
      go_wp2_with (first | (with_reducible refine wpl_storeb (o := ⟨none, .store _ _ _, _, _, _, _⟩) rfl rfl row_got H5.out.blk rfl rfl H5.out.len HG2.out.len HG2.out.one ?_))
      intro w2_ hb2_ hg2_ hsz2_
      have HB_ := Lib.hid (put_below HB.out H5_g.out hg2_)
      have HV_ := Lib.hid (show At w2_ g4 77 37 (gotV noF 0 nilS) from ⟨Blk.grown HV.out.blk hg2_ (fun e => H54.out (by injection e with e; exact e.symm)), HV.out.len⟩)
      have H5_ := Lib.hid (at_mk hb2_ HG2.out.len)
      rw [HG2E.out] at H5_
      clear hb2_ hg2_ hsz2_ HB HV H5 HG2
      go_wp2_with fail
      go_loopw [6] (fun iv wr => ∃ i : Nat, i ≤ 32 ∧ iv = .int .i64 i ∧ Hid (At wr g5 77 37 (gotV (fieldV 2 0 nilS (l.take i ++ List.replicate (32 - i) 0)) 0 (.slice (some ⟨b, off + 32, none⟩) (n - 32) (c - 32))) ∧ At wr g4 77 37 (gotV noF 0 nilS) ∧ Below w.heap.size w wr)) (fun iv _ => 32 - (intOf iv).toNat)
      case atStart => exact ⟨0, by omega, rfl, Lib.hid ⟨H5_.out, HV_.out, HB_.out⟩⟩
      case round =>
        obtain ⟨i, hi, rfl, hI⟩ := hrel
        have H5 := Lib.hid hI.out.1; have HV := Lib.hid hI.out.2.1; have HB := Lib.hid hI.out.2.2
        clear hI H5_ HV_ HB_
        by_cases hlt : i < 32
        · obtain ⟨x, hx⟩ : ∃ x, l[i]? = some x := ⟨l[i]'(by have := HLN.out; omega), List.getElem?_eq_getElem _⟩
          have hbc := bcell HB.out (HCELL.out i (B x) (by rw [List.getElem?_map, hx]; rfl))
          have HX := Lib.hid (upto_id (by have := HLN.out; omega) hlt hx (fun d => fieldV 2 0 nilS d) (fun d => rfl) 0 (.slice (some ⟨b, off + 32, none⟩) (n - 32) (c - 32)))
          have v3 : IntKind.i64.wrap ((i : Int) + 1) = (i : Int) + 1 := IntWalk.i64_in _ (by omega)
          have v4 : RowKit.wrap64 ((i : Int) + 1) = (i : Int) + 1 := wrap64_in _ (by omega)
          obtain ⟨bx, hbx⟩ : ∃ v, v = B x := ⟨_, rfl⟩
          have HCE := Lib.hid (show bx.cells = #[bx] ∧ bx.oneCell' = true by rw [hbx]; exact ⟨rfl, rfl⟩)
          rw [← hbx] at hbc HX
          clear hbx hx
          go_wp2_with (first | (refine wpl_store1 (o := ⟨none, .store _ _ _, _, _, _, _⟩) rfl rfl H5.out.blk rfl rfl (by kernel_rfl) HCE.out.1 HCE.out.2 (by first | (rw [H5.out.len]; omega) | fail) ?_))
          intro w2_ hb2_ hg2_ hsz2_
          have HB_ := Lib.hid (put_below HB.out H5_g.out hg2_)
          have HV_ := Lib.hid (show At w2_ g4 77 37 (gotV noF 0 nilS) from ⟨Blk.grown HV.out.blk hg2_ (fun e => H54.out (by injection e with e; exact e.symm)), HV.out.len⟩)
          have H5_ := Lib.hid (show At w2_ g5 77 37 (gotV (fieldV 2 0 nilS (l.take (i + 1) ++ List.replicate (32 - (i + 1)) 0)) 0 (.slice (some ⟨b, off + 32, none⟩) (n - 32) (c - 32))) from at_mk (by rw [← HX.out]; exact hb2_) (by rw [← HX.out, List.length_set]; exact H5.out.len))
          clear hb2_ hg2_ hsz2_ HB HV H5
          go_wp2_with fail
          go_roundw
          case rel => exact ⟨i + 1, by omega, by go_num, Lib.hid ⟨H5_.out, HV_.out, HB_.out⟩⟩
          case measure => simp [intOf]; omega
        · obtain rfl : i = 32 := by omega
          rename World => w_
          have HH5 := Lib.hid (show At w_ g5 77 37 (gotV (fieldV 2 0 nilS (l.take 32)) 0 (.slice (some ⟨b, off + 32, none⟩) (n - 32) (c - 32))) by have h := H5.out; simp only [Nat.sub_self, List.replicate_zero, List.append_nil] at h; exact h)
          have HCF := Lib.hid (show Cl 35 (fieldV 2 0 nilS (l.take 32)) from fieldV_cl rfl (by rw [List.length_take]; have := HLN.out; omega))
          have HCO := Lib.hid (show Cl 37 (gotV (fieldV 2 0 nilS (l.take 32)) 0 (.slice (some ⟨b, off + 32, none⟩) (n - 32) (c - 32))) from gotV_cl HCF.out rfl)
          obtain ⟨ov, hov⟩ : ∃ v, v = gotV (fieldV 2 0 nilS (l.take 32)) 0 (.slice (some ⟨b, off + 32, none⟩) (n - 32) (c - 32)) := ⟨_, rfl⟩
          have HOV := Lib.hid hov
          rw [← hov] at HH5 HCO
          clear hov H5
          go_wp2_with (first | (with_reducible refine wpl_loadb (o := ⟨some 34, _, _, _, _, _⟩) rfl rfl row_got HH5.out.blk rfl HH5.out.len ?_) | (with_reducible refine wpl_storeb (o := ⟨none, .store _ _ _, _, _, _, _⟩) rfl rfl row_got HV.out.blk rfl rfl HV.out.len HCO.out.len HCO.out.one ?_))
          intro w2_ hb2_ hg2_ hsz2_
          have HB_ := Lib.hid (put_below HB.out HV_g.out hg2_)
          have HV_ := Lib.hid (at_mk hb2_ HCO.out.len)
          clear hb2_ hg2_ hsz2_ HB HV HH5
          go_wp2_with fail
          refine ret_cell rfl row_got HV_.out.blk rfl HV_.out.len rfl ?_
          have hdl : (l.drop 32).length = (n - 32) := by rw [List.length_drop, HLN.out]
          refine .ok (v := l.take 32) (t := l.drop 32) (A := (some ⟨b, off + 32, none⟩)) (c := (c - 32)) (by unfold takeR; rw [if_pos (by have := HLN.out; omega)]) (by rw [HOV.out, hdl]) HCF.out rfl ?_ (by rw [hdl]; omega) HB_.out
          rw [hdl, List.map_drop]
          have h9 := (HS.out.from1 (k := 32) (by omega) HC.out).below (HB_.out.mono HBD.out)
          rw [if_neg h] at h9
          exact h9
end Go.Proofs.Ytphmefhnffoafaa

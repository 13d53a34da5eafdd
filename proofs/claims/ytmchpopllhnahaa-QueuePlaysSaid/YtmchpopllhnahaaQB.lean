/- Requests that wait: what they are, how they lie in memory; a request by itself. -/
import Derived.Test.YtmchpopllhnahaaQA
import Derived.Test.YtmchpopllhnahaaQRate
namespace Go.Proofs.Ytmchpopllhnahaa
open Go.RowKit
set_option linter.unusedVariables false

structure Wt where
  cl : Int
  num : Int
  rate : Nat
  bs : List UInt8
  deriving DecidableEq
def Wt.ok (p : Wt) : Prop := p.rate < 2 ^ 64 ∧ p.bs.length ≤ 60
def noWt : Wt := ⟨0, 0, 0, []⟩
theorem noWt_ok : noWt.ok := ⟨by decide, by decide⟩
def nilS : Value := .slice none 0 0
def wtV (v : Value) (p : Wt) : List Value := [.int .i64 p.cl, .int .i64 p.num, .float .f64 p.rate, v]
def wtA (v : Value) (p : Wt) : Value := .agg (wtV v p).toArray
theorem row_wait : RowT Try.prog 29 4 := ⟨_, Try.underlying29, by kernel_rfl, by kernel_rfl⟩
theorem zero_wait : (Try.prog.info? 29).map (·.zero) = some (some (.agg (wtV nilS noWt).toArray)) := by kernel_rfl
theorem len_wait : (wtV nilS noWt).length = 4 := rfl
theorem info_wait : (Try.prog.info? 29).map (fun i => (i.zero, i.size, i.bytes)) = some (some (.agg (wtV nilS noWt).toArray), 4, 48) := by kernel_rfl
theorem el_wait : ElemT Try.prog 44 29 4 48 := elemT Try.underlying44 info_wait rfl (by omega)
theorem info_u8q : (Try.prog.info? 5).map (fun i => (i.zero, i.size, i.bytes)) = some (some (.int .u8 0), 1, 1) := by kernel_rfl
theorem el_u8 : ElemT Try.prog 27 5 1 1 := elemT Try.underlying27 info_u8q rfl (by omega)

/-- Nothing old has turned but the blocks of M; the blocks of M' are those, or new. -/
def Step (w : World) (M : List Nat) (w' : World) (M' : List Nat) : Prop := Touched M w w' ∧ ∀ b ∈ M', b ∈ M ∨ w.heap.size ≤ b
theorem Step.refl (w : World) (M : List Nat) : Step w M w M := ⟨Touched.refl _ _, fun b h => .inl h⟩
theorem Step.of_grow {w w' : World} (M : List Nat) (h : Grow w w') : Step w M w' M := ⟨.of_below h, fun b h => .inl h⟩
theorem Step.trans {w w1 w2 : World} {M M1 M2 : List Nat} (h : Step w M w1 M1) (k : Step w1 M1 w2 M2) : Step w M w2 M2 := by
  refine ⟨⟨k.1.os.trans h.1.os, k.1.tape.trans h.1.tape, k.1.output.trans h.1.output, Nat.le_trans h.1.size k.1.size, fun i hi hn => ?_⟩, fun b hb => ?_⟩
  · refine (k.1.block i (Nat.lt_of_lt_of_le hi h.1.size) (fun hm => ?_)).trans (h.1.block i hi hn)
    rcases h.2 i hm with h2 | h2
    · exact hn h2
    · omega
  · rcases k.2 b hb with h2 | h2
    · exact h.2 b h2
    · exact .inr (Nat.le_trans h.1.size h2)
theorem Step.grow {w w1 w2 : World} {M M1 : List Nat} (h : Step w M w1 M1) (k : Grow w1 w2) : Step w M w2 M1 := h.trans (.of_grow _ k)
theorem Step.below {w w' : World} {M M' : List Nat} (h : Step w M w' M') {Bd : Nat} (hM : ∀ b ∈ M, Bd ≤ b) (hB : Bd ≤ w.heap.size) : Below Bd w w' := h.1.below hM hB

/-- A value that reads as these bytes, in no block of M. -/
def BV (w : World) (M : List Nat) (v : Value) (bs : List UInt8) : Prop :=
  ∃ A n c, v = .slice A n c ∧ n = bs.length ∧ Sl w w.heap.size 1 A n (bs.map B) ∧ (0 < n → ∀ b, A.map Addr.block = some b → b ∉ M)
theorem Sl.touch {w w' : World} {M : List Nat} {sz n : Nat} {A : Option Addr} {xs : List Value} (h : Sl w w.heap.size sz A n xs) (hn : 0 < n → ∀ b, A.map Addr.block = some b → b ∉ M) (k : Touched M w w') : Sl w' w'.heap.size sz A n xs := by
  refine ⟨h.1, fun h0 => ?_⟩
  obtain ⟨b, off, rfl, hb, hc⟩ := h.2 h0
  exact ⟨b, off, rfl, Nat.lt_of_lt_of_le hb k.size, fun j u hu => (World.cell?_of_block (k.block b hb (hn h0 b rfl))).trans (hc j u hu)⟩
theorem Sl.avoid {w w' : World} {M M' : List Nat} {sz n : Nat} {A : Option Addr} {xs : List Value} (h : Sl w w.heap.size sz A n xs) (hn : 0 < n → ∀ b, A.map Addr.block = some b → b ∉ M) (k : Step w M w' M') : 0 < n → ∀ b, A.map Addr.block = some b → b ∉ M' := by
  intro h0 b hb hm
  obtain ⟨b', off, rfl, hlt, hc⟩ := h.2 h0
  cases hb
  rcases k.2 _ hm with h2 | h2
  · exact hn h0 _ rfl h2
  · exact Nat.lt_irrefl _ (Nat.lt_of_lt_of_le hlt h2)
theorem BV.step {w w' : World} {M M' : List Nat} {v : Value} {bs : List UInt8} (h : BV w M v bs) (k : Step w M w' M') : BV w' M' v bs := by
  obtain ⟨A, n, c, h1, h2, h3, h4⟩ := h
  exact ⟨A, n, c, h1, h2, h3.touch h4 k.1, h3.avoid h4 k⟩
theorem BV.grow {w w' : World} {M : List Nat} {v : Value} {bs : List UInt8} (h : BV w M v bs) (k : Grow w w') : BV w' M v bs := h.step (.of_grow M k)
theorem BV.sub {w : World} {M M' : List Nat} {v : Value} {bs : List UInt8} (h : BV w M v bs) (k : ∀ b ∈ M', b ∈ M) : BV w M' v bs := by
  obtain ⟨A, n, c, h1, h2, h3, h4⟩ := h
  exact ⟨A, n, c, h1, h2, h3, fun h0 b hb hm => h4 h0 b hb (k b hm)⟩
theorem BV.nil (w : World) (M : List Nat) : BV w M nilS [] := ⟨none, 0, 0, rfl, rfl, Sl.nil, fun h => absurd h (by omega)⟩
theorem BV.one {w : World} {M : List Nat} {v : Value} {bs : List UInt8} (h : BV w M v bs) : v.oneCell' = true := by obtain ⟨A, n, c, rfl, _⟩ := h; rfl
theorem wtV_cl {v : Value} (p : Wt) (h : v.oneCell' = true) : Cl 4 (wtV v p) := by
  refine ⟨rfl, fun u hu => ?_⟩
  simp only [wtV, List.mem_cons, List.not_mem_nil, or_false] at hu
  rcases hu with rfl | rfl | rfl | rfl <;> first | rfl | exact h

/-- The cells of a list of requests. -/
def flat (L : List (Value × Wt)) : List Value := L.flatMap fun p => wtV p.1 p.2
theorem flat_nil : flat [] = [] := rfl
theorem flat_cons (p : Value × Wt) (L : List (Value × Wt)) : flat (p :: L) = wtV p.1 p.2 ++ flat L := by simp [flat]
theorem flat_append (L K : List (Value × Wt)) : flat (L ++ K) = flat L ++ flat K := by simp [flat]
theorem flat_length (L : List (Value × Wt)) : (flat L).length = L.length * 4 := by
  induction L with
  | nil => rfl
  | cons p L ih => rw [flat_cons, List.length_append, ih, List.length_cons]; simp [wtV]; omega
theorem flat_take (L : List (Value × Wt)) : ∀ k, (flat L).take (k * 4) = flat (L.take k) := by
  induction L with
  | nil => intro k; simp [flat]
  | cons p L ih =>
    intro k
    cases k with
    | zero => simp [flat]
    | succ k =>
      rw [flat_cons, List.take_succ_cons, flat_cons, ← ih k, show (k + 1) * 4 = 4 + k * 4 by omega]
      exact List.take_length_add_append (l₁ := wtV p.1 p.2) (k * 4)
theorem flat_drop (L : List (Value × Wt)) : ∀ k, (flat L).drop (k * 4) = flat (L.drop k) := by
  induction L with
  | nil => intro k; simp [flat]
  | cons p L ih =>
    intro k
    cases k with
    | zero => simp [flat]
    | succ k =>
      rw [flat_cons, List.drop_succ_cons, ← ih k, show (k + 1) * 4 = 4 + k * 4 by omega]
      exact List.drop_length_add_append (l₁ := wtV p.1 p.2) (k * 4)
theorem wflat_at {L : List (Value × Wt)} {k : Nat} {p : Value × Wt} (h : L[k]? = some p) {j : Nat} {u : Value} (hj : (wtV p.1 p.2)[j]? = some u) : (flat L)[k * 4 + j]? = some u := by
  have h1 : (flat L).drop (k * 4) = wtV p.1 p.2 ++ flat (L.drop (k + 1)) := by
    obtain ⟨hk, rfl⟩ := List.getElem?_eq_some_iff.1 h
    rw [flat_drop, List.drop_eq_getElem_cons hk, flat_cons]
  rw [← List.getElem?_drop, h1, List.getElem?_append_left (List.getElem?_eq_some_iff.1 hj).1]
  exact hj
/-- A slice of requests that can be read; nothing of it lies in a block of M. -/
def XAt (w : World) (M : List Nat) (A : Option Addr) (n : Nat) (L : List (Value × Wt)) : Prop :=
  L.length = n ∧ Sl w w.heap.size 4 A n (flat L) ∧ (0 < n → ∀ b, A.map Addr.block = some b → b ∉ M) ∧ ∀ p ∈ L, BV w M p.1 p.2.bs ∧ p.2.ok
section
variable {w w' : World} {M M' : List Nat} {A : Option Addr} {n k c : Nat} {L : List (Value × Wt)}
theorem XAt.nil (w : World) (M : List Nat) : XAt w M none 0 [] := ⟨rfl, Sl.nil, fun h => absurd h (by omega), fun p h => by cases h⟩
theorem XAt.step (h : XAt w M A n L) (k : Step w M w' M') : XAt w' M' A n L :=
  ⟨h.1, h.2.1.touch h.2.2.1 k.1, h.2.1.avoid h.2.2.1 k, fun p hp => ⟨(h.2.2.2 p hp).1.step k, (h.2.2.2 p hp).2⟩⟩
theorem XAt.grow (h : XAt w M A n L) (k : Grow w w') : XAt w' M A n L := h.step (.of_grow M k)
theorem XAt.sub (h : XAt w M A n L) (k : ∀ b ∈ M', b ∈ M) : XAt w M' A n L :=
  ⟨h.1, h.2.1, fun h0 b hb hm => h.2.2.1 h0 b hb (k b hm), fun p hp => ⟨(h.2.2.2 p hp).1.sub k, (h.2.2.2 p hp).2⟩⟩
theorem XAt.bare (h : XAt w M A n L) : XAt w [] A n L := h.sub fun b hb => by cases hb
theorem XAt.at_ (h : XAt w M A n L) (hk : k < n) : ∃ b off p, A = some ⟨b, off, none⟩ ∧ L[k]? = some p ∧ (∀ j u, (wtV p.1 p.2)[j]? = some u → w.cell? ⟨b, off + k * 4 + j, none⟩ = some u) ∧ BV w M p.1 p.2.bs ∧ p.2.ok := by
  obtain ⟨b, off, e, hb, hc⟩ := h.2.1.2 (by omega)
  have hl : k < L.length := by have := h.1; omega
  refine ⟨b, off, L[k], e, List.getElem?_eq_getElem hl, fun j u hu => ?_, h.2.2.2 _ (List.getElem_mem hl)⟩
  rw [Nat.add_assoc]
  exact hc _ u (wflat_at (List.getElem?_eq_getElem hl) hu)
theorem XAt.take (h : XAt w M A n L) (hk : k ≤ n) : XAt w M A k (L.take k) := by
  refine ⟨by rw [List.length_take, h.1]; omega, ⟨by rw [flat_length, List.length_take, h.1]; congr 1; omega, fun h0 => ?_⟩, fun h0 => h.2.2.1 (by omega), fun p hp => h.2.2.2 p (List.mem_of_mem_take hp)⟩
  obtain ⟨b, off, e, hb, hc⟩ := h.2.1.2 (by omega)
  refine ⟨b, off, e, hb, fun j u hu => hc j u ?_⟩
  rw [← flat_take, List.getElem?_take] at hu
  split at hu
  · exact hu
  · cases hu
theorem XAt.drop (h : XAt w M A n L) (hk : k ≤ n) (hc : n ≤ c) : XAt w M (if c = k then A else A.map (·.add (k * 4))) (n - k) (L.drop k) := by
  have h1 := h.2.1.cut (k := k) (m := n - k) (cap := c) (by omega) hc
  rw [flat_drop, List.take_of_length_le (by rw [flat_length, List.length_drop, h.1]; exact Nat.le_refl _)] at h1
  refine ⟨by rw [List.length_drop, h.1], h1, fun h0 b hb => ?_, fun p hp => h.2.2.2 p (List.mem_of_mem_drop hp)⟩
  rw [if_neg (by omega)] at hb
  refine h.2.2.1 (by omega) b ?_
  cases A with
  | none => cases hb
  | some a =>
    have e : (a.add (k * 4)).block = a.block := by unfold Addr.add; split <;> rfl
    simpa [e] using hb
end

theorem run_nil_u8 (w : World) (a : Option Addr) (n c n' c' : Nat) : (binOp .eql 27 (.slice a n c) (.slice none n' c')).run Try.prog w = .ok (.bool a.isNone) w := Lib.run_eql_slice_nil w _ _ a n c n' c' Try.underlying27
set_option maxHeartbeats 1000000 in
theorem bclone_any (A : Option Addr) (n c : Nat) (bs : List UInt8) (w : World) (hs : Sl w w.heap.size 1 A n (bs.map B)) (hn : n ≤ 1000000) :
    Calls Try.prog 49 #[.slice A n c] w fun e w' => ∃ A' c', e = .returned (.slice A' n c') ∧ w'.ownsRow w.heap.size 5 1 (.slice A' n c') n (bs.map B) ∧ Grow w w' := by
  have HS := Lib.hid hs
  have qT := run_nil_u8
  cases A with
  | none =>
    obtain rfl : n = 0 := by
      rcases Nat.eq_zero_or_pos n with h0 | h0
      · exact h0
      · obtain ⟨b, off, u, h1, _⟩ := hs.at_ h0; cases h1
    have hb0 : bs = [] := by have := hs.len; simpa using this
    subst hb0
    clear hs
    go_enter Try.func49, Try.ntmps49
    go_wp2
    go_ret
    exact ⟨none, 0, rfl, World.ownsRow_nil _ _ _ _, Grow.refl _⟩
  | some ad =>
    have HN0 := Lib.hid (World.ownsRow_lit (base := w.heap.size) (e := 5) (size := 1) w #[] 0 (Nat.le_refl _) (by simp [maxLen]) rfl)
    have HSA := Lib.hid (hs.alloc (Nat.le_refl _) (.cells #[] 5))
    have HONE := Lib.hid (all_bytes bs)
    clear hs
    go_enter Try.func49, Try.ntmps49
    go_wp2_with (at_builtin; refine wpl_apps rfl rfl el_u8 HN0.out rfl HSA.out rfl HONE.out (by omega) (by omega) (by simp) ?_)
    intro A4 c4 w4 ho hg hA
    have HO := Lib.hid (show w4.ownsRow w.heap.size 5 1 (.slice A4 n c4) n (bs.map B) by simpa using ho)
    have HB := Lib.hid (show Grow w w4 from ((Below.refl w.heap.size w).alloc (Nat.le_refl _) (.cells #[] 5)).grown hg (by simp) (by intro k hk; cases hk; exact Nat.le_refl _))
    clear ho hg hA
    try simp only [Nat.zero_add]
    go_wp2_with fail
    go_ret
    exact ⟨A4, c4, rfl, HO.out, HB.out⟩
/-- Bytes of the call's own lie in no block that was there. -/
theorem bv_own {w' : World} {M : List Nat} {A : Option Addr} {n c Bd : Nat} {bs : List UInt8} (h : w'.ownsRow Bd 5 1 (.slice A n c) n (bs.map B)) (hM : ∀ b ∈ M, b < Bd) : BV w' M (.slice A n c) bs := by
  refine ⟨A, n, c, rfl, ?_, Sl.of_own h, fun _ b hb hm => ?_⟩
  · have := h.1; simp at this; omega
  · have h1 := own_from h b hb
    have h2 := hM b hm
    omega
/-- A row of bytes of this call's own. -/
def OwnAt (w : World) (base : Nat) (A : Option Addr) (n c : Nat) (xs : List Value) : Prop := w.ownsRow base 5 1 (.slice A n c) n xs
theorem OwnAt.kept {w w' : World} {base n c g : Nat} {A : Option Addr} {xs cs : List Value} {T : TypeId} (h : OwnAt w base A n c xs) (hb : Blk w g T cs) (hT : T ≠ 5) (k : w.grownBy w' (some g)) : OwnAt w' base A n c xs := by
  refine own_kept h k (fun g' hA e => hT ?_)
  cases e
  rcases h.2 with ⟨hv, _⟩ | ⟨g2, cap, cur, hv, _, hh, _⟩
  · rw [hA] at hv; cases hv
  · rw [hA] at hv
    injection hv with hv1 _ _
    injection hv1 with hv1
    injection hv1 with hv1
    subst hv1
    unfold Blk at hb
    rw [hb] at hh
    injection hh with hh
    injection hh
set_option maxRecDepth 100000 in
theorem qclone_any {w : World} {M : List Nat} {v : Value} {p : Wt} (hv : BV w M v p.bs) (hk : p.ok) :
    Calls Try.prog 29 #[wtA v p] w fun e w' => ∃ v', e = .returned (wtA v' p) ∧ (∀ M', (∀ b ∈ M', b < w.heap.size) → BV w' M' v' p.bs) ∧ Grow w w' := by
  obtain ⟨A, n, c, rfl, hn, hs, -⟩ := hv
  have HS := Lib.hid hs
  have HN := Lib.hid (show n ≤ 1000000 by have := hk.2; omega)
  have HWC := Lib.hid (wtV_cl p (v := .slice A n c) rfl)
  have H3 := Lib.hid (show (wtV (.slice A n c) p)[3]? = some (.slice A n c) from rfl)
  have HSET := Lib.hid (fun v' => show (wtV (.slice A n c) p).set 3 v' = wtV v' p from rfl)
  have HWN := Lib.hid (fun A' c' => wtV_cl p (v := .slice A' n c') rfl)
  obtain ⟨bs, hbs⟩ : ∃ q, q = p.bs := ⟨_, rfl⟩
  rw [← hbs] at HS ⊢
  unfold wtA
  obtain ⟨xs, hx⟩ : ∃ q, q = wtV (.slice A n c) p := ⟨_, rfl⟩
  rw [← hx] at HWC H3 HSET ⊢
  clear hs hn hk hbs hx
  obtain ⟨w_, hw⟩ : ∃ x, x = w := ⟨_, rfl⟩
  have HB := Lib.hid (show Below w.heap.size w w_ by rw [hw]; exact Below.refl _ _)
  suffices H : Calls Try.prog 29 #[.agg xs.toArray] w_ fun e w' => ∃ v', e = .returned (.agg (wtV v' p).toArray) ∧ (∀ M', (∀ b ∈ M', b < w.heap.size) → BV w' M' v' bs) ∧ Grow w w' by rw [hw] at H; exact H
  clear hw
  go_enter Try.func29, Try.ntmps29
  go_wp2_with (first | (with_reducible refine wpl_box (o := ⟨some 1, _, _, _, _, _⟩) rfl rfl rfl ?_))
  intro w2_ hb2_ hb_ hsz2_
  have HX_ := Lib.hid (at_mk hb2_ HWC.out.len)
  clear hb2_ hsz2_
  have HG_ := Lib.hid HB.out.size
  have HB_ := Lib.hid (HB.out.grow' hb_)
  clear HB
  have HB := HB_
  clear HB_
  generalize hg_ : w_.heap.size = g1 at HX_ HG_ ⊢
  clear hg_
  have HP_g := HG_
  clear HG_
  have HP := HX_
  clear hb_ HX_
  try clear w_
  rename World => w_
  go_wp2_with (first | (with_reducible refine wpl_alloc (o := ⟨some 2, _, _, _, _, _⟩) rfl rfl zero_wait ?_))
  intro w2_ hb2_ hb_ hsz2_
  have HX_ := Lib.hid (at_mk hb2_ len_wait)
  clear hb2_ hsz2_
  have HG_ := Lib.hid HB.out.size
  have HR_HP := Lib.hid (Nat.ne_of_lt HP.out.lt)
  have HB_ := Lib.hid (HB.out.grow' hb_)
  clear HB
  have HB := HB_
  clear HB_
  have HP_ := Lib.hid (HP.out.grow hb_)
  clear HP
  have HP := HP_
  clear HP_
  generalize hg_ : w_.heap.size = g2 at HX_ HG_ HR_HP ⊢
  clear hg_
  have HR_g := HG_
  clear HG_
  have HR := HX_
  clear hb_ HX_
  try clear w_
  rename World => w_
  have HNP := Lib.hid (show g1 ≠ g2 from HR_HP.out)
  have HNR := Lib.hid (show g2 ≠ g1 from fun e => HNP.out e.symm)
  have c3 := HP.out.blk.at_ H3.out
  go_wp2_with fail
  refine (bclone_any A n c bs _ ((HS.out.below HB.out).more HB.out.size) HN.out).mono ?_
  rintro e w2_ ⟨A', c', rfl, ho_, hb_⟩
  have HO := Lib.hid (show OwnAt w2_ w.heap.size A' n c' (bs.map B) from own_base ho_ HB.out.size)
  have HP_ := Lib.hid (HP.out.grow hb_); have HR_ := Lib.hid (HR.out.grow hb_); have HB_ := Lib.hid (HB.out.grow' hb_)
  clear ho_ hb_ HP HR HB c3
  have HP := HP_; have HR := HR_; have HB := HB_
  clear HP_ HR_ HB_
  try clear w_
  rename World => w_
  go_wp2_with (first | (refine wpl_store1 (o := ⟨none, .store _ _ _, _, _, _, _⟩) rfl rfl HP.out.blk rfl rfl (by kernel_rfl) rfl rfl (by have := HP.out.len; omega) ?_))
  intro w2_ hb2_ hg2_ hsz2_
  have HB_ := Lib.hid (put_below HB.out HP_g.out hg2_)
  have HX_ := Lib.hid (at_mk hb2_ ((List.length_set ..).trans HP.out.len))
  have HR_ := Lib.hid (At.off HR.out hg2_ HNR.out)
  have HO_ := Lib.hid (HO.out.kept HP.out.blk (by decide) hg2_)
  clear hb2_ hg2_ hsz2_ HB HP HR HO
  have HB := HB_; have HP := HX_
  have HR := HR_
  have HO := HO_
  clear HB_ HX_ HR_ HO_
  try clear w_
  rename World => w_
  rw [HSET.out] at HP
  have HD := Lib.hid (HWN.out A' c')
  obtain ⟨ys, hys⟩ : ∃ q, q = wtV (.slice A' n c') p := ⟨_, rfl⟩
  have HYE := Lib.hid hys
  rw [← hys] at HP HD
  clear hys HSET HWN
  go_wp2_with (first | (with_reducible refine wpl_loadb (o := ⟨some 7, _, _, _, _, _⟩) rfl rfl row_wait HP.out.blk rfl HP.out.len ?_) | (with_reducible refine wpl_storeb (o := ⟨none, .store _ _ _, _, _, _, _⟩) rfl rfl row_wait HR.out.blk rfl rfl HR.out.len HD.out.len HD.out.one ?_))
  intro w2_ hb2_ hg2_ hsz2_
  have HB_ := Lib.hid (put_below HB.out HR_g.out hg2_)
  have HX_ := Lib.hid (at_mk hb2_ HD.out.len)
  have HP_ := Lib.hid (At.off HP.out hg2_ HNP.out)
  have HO_ := Lib.hid (HO.out.kept HR.out.blk (by decide) hg2_)
  clear hb2_ hg2_ hsz2_ HB HR HP HO
  have HB := HB_; have HR := HX_
  have HP := HP_
  have HO := HO_
  clear HB_ HX_ HP_ HO_
  try clear w_
  rename World => w_
  go_wp2_with fail
  refine ret_cell rfl row_wait HR.out.blk rfl HR.out.len rfl ?_
  exact ⟨.slice A' n c', by rw [HYE.out], fun M' hM => bv_own HO.out hM, HB.out⟩
end Go.Proofs.Ytmchpopllhnahaa

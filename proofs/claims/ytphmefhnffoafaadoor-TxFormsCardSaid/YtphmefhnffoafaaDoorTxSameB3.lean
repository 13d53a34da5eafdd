/- What the document's Take hands back: its values. No program's walk. -/
import Derived.Test.YtphmefhnffoafaaDoorTxSameB2
import Derived.Test.YtphmefhnffoafaaDoorHeaderFollowsB14
import Derived.Test.YtphmefhnffoafaaDoorHeaderFollowsB13
import Derived.Test.YtphmefhnffoafaaDoorHeaderFollowsB7
import Derived.Test.YtphmefhnffoafaaDoorHeaderFollowsB17
import Derived.Test.YtphmefhnffoafaaDoorTxSameB1
import Derived.Deep.CutBlock
set_option linter.unusedSimpArgs false
/- What the document's Take hands back: its values. No program's walk. -/
namespace Go.Proofs.YtphmefhnffoafaaDoor
open Go.RowKit Go.Shelf
set_option linter.unusedVariables false

theorem At.off {w w' : World} {g q : Nat} {T : TypeId} {n : Nat} {xs : List Value} (h : At w g T n xs) (k : w.grownBy w' (some q)) (hne : g ≠ q) : At w' g T n xs := ⟨Blk.grown h.1 k (fun e => hne (Option.some.inj e)), h.2⟩
theorem splice_length {L cs : List Value} {off n : Nat} (h : off + cs.length ≤ L.length) (hn : L.length = n) : (splice L off cs).length = n := by
  unfold splice; simp only [List.length_append, List.length_take, List.length_drop]; omega
theorem Sl.back {w w' : World} {Bd sz n : Nat} {A : Option Addr} {xs : List Value} (h : Sl w' Bd sz A n xs) (hb : Below Bd w w') : Sl w Bd sz A n xs := h.keep fun p hp => (hb.cell hp).symm
def SzG (w : World) (n : Nat) : Prop := n ≤ w.heap.size
theorem SzG.grow {w w' : World} {n : Nat} (h : SzG w n) (k : Grow w w') : SzG w' n := Nat.le_trans h k.size
def nilS : Value := .slice none 0 0
def fieldV (k n : Int) (b : Value) (d : List UInt8) : List Value := [.int .i64 k, .int .u64 n, b] ++ d.map B
def gotV (f : List Value) (e : Int) (left : Value) : List Value := f ++ [.int .i64 e, left]
def noF : List Value := fieldV 0 0 nilS zeroD
/-- n cells, each one. -/
def Cl (n : Nat) (xs : List Value) : Prop := xs.length = n ∧ ∀ u ∈ xs, u.oneCell' = true
theorem Cl.len {n : Nat} {xs : List Value} (h : Cl n xs) : xs.length = n := h.1
theorem Cl.one {n : Nat} {xs : List Value} (h : Cl n xs) : ∀ u ∈ xs, u.oneCell' = true := h.2
theorem fieldV_cl {k n : Int} {b : Value} {d : List UInt8} (hb : b.oneCell' = true) (hd : d.length = 32) : Cl 35 (fieldV k n b d) := by
  refine ⟨by simp [fieldV, hd], fun u hu => ?_⟩
  simp only [fieldV, List.mem_append, List.mem_cons, List.not_mem_nil, or_false, List.mem_map] at hu
  rcases hu with (rfl | rfl | rfl) | ⟨x, _, rfl⟩
  · rfl
  · rfl
  · exact hb
  · rfl
theorem gotV_cl {f : List Value} {e : Int} {l : Value} (hf : Cl 35 f) (hl : l.oneCell' = true) : Cl 37 (gotV f e l) := by
  refine ⟨by simp [gotV, hf.1], fun u hu => ?_⟩
  simp only [gotV, List.mem_append, List.mem_cons, List.not_mem_nil, or_false] at hu
  rcases hu with h | rfl | rfl
  · exact hf.2 u h
  · rfl
  · exact hl
theorem noF_cl : Cl 35 noF := fieldV_cl rfl (by simp [zeroD])
theorem fieldV_at {k n : Int} {b : Value} {d : List UInt8} : (fieldV k n b d)[0]? = some (.int .i64 k) ∧ (fieldV k n b d)[1]? = some (.int .u64 n) ∧ (fieldV k n b d)[2]? = some b := ⟨rfl, rfl, rfl⟩
theorem gotV_at {f : List Value} {e : Int} {l : Value} (hf : Cl 35 f) : (gotV f e l)[35]? = some (.int .i64 e) ∧ (gotV f e l)[36]? = some l ∧ ∀ (j : Nat) (v : Value), f[j]? = some v → (gotV f e l)[j]? = some v := by
  refine ⟨?_, ?_, fun j v h => ?_⟩
  · unfold gotV; rw [List.getElem?_append_right (by rw [hf.1]; omega), hf.1]; rfl
  · unfold gotV; rw [List.getElem?_append_right (by rw [hf.1]; omega), hf.1]; rfl
  · unfold gotV; rw [List.getElem?_append_left (List.getElem?_eq_some_iff.1 h).1]; exact h
theorem row_fld : RowT Tryd.prog 125 35 := ⟨_, Tryd.underlying125, by kernel_rfl, by kernel_rfl⟩
theorem row_got : RowT Tryd.prog 127 37 := ⟨_, Tryd.underlying127, by kernel_rfl, by kernel_rfl⟩
theorem zero_fld : (Tryd.prog.info? 125).map (·.zero) = some (some (.agg noF.toArray)) := by kernel_rfl
theorem zero_got : (Tryd.prog.info? 127).map (·.zero) = some (some (.agg (gotV noF 0 nilS).toArray)) := by kernel_rfl
theorem len_fld : noF.length = 35 := noF_cl.1
theorem len_got : (gotV noF 0 nilS).length = 37 := (gotV_cl noF_cl rfl).1
theorem built_fld0 (parts : List (Nat × Value)) : Tryd.prog.built 125 parts = Instr.fill (fun i => (#[(0, 1), (1, 1), (2, 1), (3, 32)] : Array (Nat × Nat))[i]?) noF.toArray parts := by kernel_rfl
theorem built_got0 (parts : List (Nat × Value)) : Tryd.prog.built 127 parts = Instr.fill (fun i => (#[(0, 35), (35, 1), (36, 1)] : Array (Nat × Nat))[i]?) (gotV noF 0 nilS).toArray parts := by kernel_rfl
theorem bt_fldk {k : Int} : Tryd.prog.built 125 [(0, .int .i64 k)] = some (fieldV k 0 nilS zeroD).toArray := by
  rw [built_fld0, fill_cons (off := 0) (s := 1) (cs := [.int .i64 k]) rfl rfl rfl (by rw [len_fld]; omega), fill_nil]; rfl
theorem bt_fldn {n : Int} : Tryd.prog.built 125 [(1, .int .u64 n)] = some (fieldV 0 n nilS zeroD).toArray := by
  rw [built_fld0, fill_cons (off := 1) (s := 1) (cs := [.int .u64 n]) rfl rfl rfl (by rw [len_fld]; omega), fill_nil]; rfl
theorem bt_fldkn {k n : Int} : Tryd.prog.built 125 [(0, .int .i64 k), (1, .int .u64 n)] = some (fieldV k n nilS zeroD).toArray := by
  rw [built_fld0, fill_cons (off := 0) (s := 1) (cs := [.int .i64 k]) rfl rfl rfl (by rw [len_fld]; omega), fill_cons (off := 1) (s := 1) (cs := [.int .u64 n]) rfl rfl rfl (by simp [splice, noF, fieldV]), fill_nil]; rfl
theorem bt_fldb {k : Int} {A : Option Addr} {n c : Nat} : Tryd.prog.built 125 [(0, .int .i64 k), (2, .slice A n c)] = some (fieldV k 0 (.slice A n c) zeroD).toArray := by
  rw [built_fld0, fill_cons (off := 0) (s := 1) (cs := [.int .i64 k]) rfl rfl rfl (by rw [len_fld]; omega), fill_cons (off := 2) (s := 1) (cs := [.slice A n c]) rfl rfl rfl (by simp [splice, noF, fieldV]), fill_nil]; rfl
theorem bt_gote {x : Int} : Tryd.prog.built 127 [(1, .int .i64 x)] = some (gotV noF x nilS).toArray := by
  rw [built_got0, fill_cons (off := 35) (s := 1) (cs := [.int .i64 x]) rfl rfl rfl (by rw [len_got]; omega), fill_nil]; rfl
theorem bt_got {f : List Value} {A : Option Addr} {n c : Nat} (hf : Cl 35 f) : Tryd.prog.built 127 [(0, .agg f.toArray), (2, .slice A n c)] = some (gotV f 0 (.slice A n c)).toArray := by
  have e1 : splice (gotV noF 0 nilS) 0 f = gotV f 0 nilS := by
    have := splice_mid (pre := []) (old := noF) (post := [Value.int .i64 0, nilS]) (new := f) (off := 0) rfl (by rw [hf.1, noF_cl.1])
    exact this
  rw [built_got0, fill_cons (off := 0) (s := 35) (cs := f) rfl rfl hf.1 (by rw [len_got]; omega), e1,
    fill_cons (off := 36) (s := 1) (cs := [.slice A n c]) rfl rfl rfl (by rw [(gotV_cl hf rfl).1]; omega), fill_nil]
  have h2 : splice (gotV f 0 nilS) 36 [.slice A n c] = gotV f 0 (.slice A n c) := by
    have e : gotV f 0 nilS = (f ++ [.int .i64 0]) ++ ([nilS] ++ []) := by simp [gotV]
    rw [e, splice_mid (pre := f ++ [Value.int .i64 0]) (old := [nilS]) (post := []) (new := [Value.slice A n c]) (off := 36) (by simp [hf.1]) rfl]; simp [gotV]
  rw [h2]
/-- What Take hands back of r: fv: its field. -/
def GotR {α : Type} (r : Rd α) (fv : α → World → List Value → Prop) (Bd : Nat) (w w' : World) (e : Ending) : Prop := Grow w w' ∧ match r with
  | .error x => e = .returned (.agg (gotV noF (x : Int) nilS).toArray)
  | .ok (v, t) => ∃ f A c, e = .returned (.agg (gotV f 0 (.slice A t.length c)).toArray) ∧ Cl 35 f ∧ fv v w' f ∧ Sl w' Bd 1 A t.length (t.map B) ∧ t.length ≤ c
theorem GotR.err {Bd : Nat} {α : Type} {r : Rd α} {fv : α → World → List Value → Prop} {w w' : World} {e : Ending} {x : Nat} (hr : r = .error x) (he : e = .returned (.agg (gotV noF (x : Int) nilS).toArray)) (hg : Grow w w') : GotR r fv Bd w w' e := by
  subst hr; exact ⟨hg, he⟩
theorem GotR.ok {Bd : Nat} {α : Type} {r : Rd α} {fv : α → World → List Value → Prop} {w w' : World} {e : Ending} {v : α} {t : List UInt8} {f : List Value} {A : Option Addr} {c : Nat} (hr : r = .ok (v, t)) (he : e = .returned (.agg (gotV f 0 (.slice A t.length c)).toArray)) (hf : Cl 35 f) (hv : fv v w' f)
    (hs : Sl w' Bd 1 A t.length (t.map B)) (hc : t.length ≤ c) (hg : Grow w w') : GotR r fv Bd w w' e := by
  subst hr; exact ⟨hg, f, A, c, he, hf, hv, hs, hc⟩
theorem GotR.get {Bd : Nat} {α : Type} {r : Rd α} {fv : α → World → List Value → Prop} {w w' : World} {e : Ending} (h : GotR r fv Bd w w' e) : Grow w w' ∧ ((∃ x, r = .error x ∧ e = .returned (.agg (gotV noF (x : Int) nilS).toArray)) ∨
    ∃ v t f A c, r = .ok (v, t) ∧ e = .returned (.agg (gotV f 0 (.slice A t.length c)).toArray) ∧ Cl 35 f ∧ fv v w' f ∧ Sl w' Bd 1 A t.length (t.map B) ∧ t.length ≤ c) := by
  obtain ⟨h1, h2⟩ := h
  refine ⟨h1, ?_⟩
  cases r with
  | error x => exact .inl ⟨x, rfl, h2⟩
  | ok p => obtain ⟨f, A, c, h3⟩ := h2; exact .inr ⟨p.1, p.2, f, A, c, rfl, h3⟩
def numF (v : Nat) (w : World) (f : List Value) : Prop := f = fieldV 0 (v : Int) nilS zeroD
def idF (d : List UInt8) (w : World) (f : List Value) : Prop := f = fieldV 2 0 nilS d
def textF (Bd : Nat) (b : List UInt8) (w : World) (f : List Value) : Prop := ∃ A c, f = fieldV 1 0 (.slice A b.length c) zeroD ∧ Sl w Bd 1 A b.length (b.map B) ∧ b.length ≤ c
theorem valB_cons {c : UInt8} {l : List UInt8} {k : Nat} {x : UInt8} (h : l[k]? = some x) : valB (l.take (k + 1)) = valB (l.take k) * 256 + x.toNat := by
  rw [take_snoc h, valB_snoc]
end Go.Proofs.YtphmefhnffoafaaDoor

/- The contract of tx.amounts. -/
namespace Go.Proofs.YtphmefhnffoafaaDoor
open Go.RowKit Go.Shelf
set_option linter.unusedVariables false
theorem fm_at {α : Type} (f : α → List Value) (sz : Nat) : ∀ (l : List α) (k j : Nat) (x : α) (u : Value), (∀ y ∈ l, (f y).length = sz) → l[k]? = some x → (f x)[j]? = some u → (l.flatMap f)[k * sz + j]? = some u
  | [], k, j, x, u, _, hx, _ => by simp at hx
  | y :: l, 0, j, x, u, hl, hx, hu => by
    simp only [List.getElem?_cons_zero, Option.some.injEq] at hx
    subst hx
    rw [List.flatMap_cons, Nat.zero_mul, Nat.zero_add, List.getElem?_append_left (List.getElem?_eq_some_iff.1 hu).1]; exact hu
  | y :: l, k + 1, j, x, u, hl, hx, hu => by
    rw [List.getElem?_cons_succ] at hx
    have e1 : (f y).length = sz := hl y (List.mem_cons_self ..)
    rw [List.flatMap_cons, List.getElem?_append_right (by rw [e1, Nat.succ_mul]; omega), e1, show (k + 1) * sz + j - sz = k * sz + j by rw [Nat.succ_mul]; omega]
    exact fm_at f sz l k j x u (fun z hz => hl z (List.mem_cons_of_mem _ hz)) hx hu
theorem inV_cl {w : World} {Bd : Nat} {p : Value × Inp} (h : InOK w Bd p) : Cl 35 (inV p.1 p.2) := by
  refine ⟨inV_len h.2, fun u hu => ?_⟩
  obtain ⟨A, c, e, _, _⟩ := h.1
  unfold inV at hu
  simp only [List.mem_append, List.mem_map, List.mem_cons, List.not_mem_nil, or_false] at hu
  rcases hu with ⟨_, _, rfl⟩ | rfl | rfl | rfl
  · rfl
  · rfl
  · rfl
  · rw [e]; rfl
theorem outV_cl {o : Outp} (h : o.ok) : Cl 33 (outV o) := by
  refine ⟨outV_len h, fun u hu => ?_⟩
  unfold outV at hu
  simp only [List.mem_append, List.mem_map, List.mem_cons, List.not_mem_nil, or_false] at hu
  rcases hu with ⟨_, _, rfl⟩ | rfl <;> rfl
theorem InsAt.at_ {w : World} {A : Option Addr} {n c : Nat} {l : List (Value × Inp)} (h : InsAt w A n c l) {k : Nat} (hk : k < n) :
    ∃ b off p, A = some ⟨b, off, none⟩ ∧ l[k]? = some p ∧ InOK w w.heap.size p ∧ ∀ j u, (inV p.1 p.2)[j]? = some u → w.cell? ⟨b, off + k * 35 + j, none⟩ = some u := by
  obtain ⟨hs, ho, hl, _⟩ := h
  obtain ⟨b, off, e, hb, hc⟩ := hs.2 (by omega)
  have hk2 : k < l.length := by omega
  refine ⟨b, off, l[k], e, List.getElem?_eq_getElem hk2, ho _ (List.getElem_mem hk2), fun j u hu => ?_⟩
  have h2 := hc (k * 35 + j) u (fm_at (fun p : Value × Inp => inV p.1 p.2) 35 l k j _ u (fun y hy => inV_len (ho y hy).2) (List.getElem?_eq_getElem hk2) hu)
  rw [← Nat.add_assoc] at h2; exact h2
theorem OutsAt.at_ {w : World} {A : Option Addr} {n c : Nat} {l : List Outp} (h : OutsAt w A n c l) {k : Nat} (hk : k < n) :
    ∃ b off p, A = some ⟨b, off, none⟩ ∧ l[k]? = some p ∧ p.ok ∧ ∀ j u, (outV p)[j]? = some u → w.cell? ⟨b, off + k * 33 + j, none⟩ = some u := by
  obtain ⟨hs, ho, hl, _⟩ := h
  obtain ⟨b, off, e, hb, hc⟩ := hs.2 (by omega)
  have hk2 : k < l.length := by omega
  refine ⟨b, off, l[k], e, List.getElem?_eq_getElem hk2, ho _ (List.getElem_mem hk2), fun j u hu => ?_⟩
  have h2 := hc (k * 33 + j) u (fm_at outV 33 l k j _ u (fun y hy => outV_len (ho y hy)) (List.getElem?_eq_getElem hk2) hu)
  rw [← Nat.add_assoc] at h2; exact h2
def zeroIn : List Value := inV nilS ⟨zeroD, 0, 0, []⟩
def zeroOut : List Value := outV ⟨zeroD, 0⟩
theorem zero_tin : (Tryd.prog.info? 105).map (·.zero) = some (some (.agg zeroIn.toArray)) := by kernel_rfl
theorem zero_tout : (Tryd.prog.info? 107).map (·.zero) = some (some (.agg zeroOut.toArray)) := by kernel_rfl
theorem len_tin : zeroIn.length = 35 := by simp [zeroIn, inV, zeroD]
theorem len_tout : zeroOut.length = 33 := by simp [zeroOut, outV, zeroD]
def txV (A : Option Addr) (n c : Nat) (A2 : Option Addr) (n2 c2 : Nat) (fee ex : Int) : List Value := [.slice A n c, .slice A2 n2 c2, .int .u64 fee, .int .i64 ex]
theorem txV_cl {A : Option Addr} {n c : Nat} {A2 : Option Addr} {n2 c2 : Nat} {fee ex : Int} : Cl 4 (txV A n c A2 n2 c2 fee ex) := ⟨rfl, fun u hu => by simp only [txV, List.mem_cons, List.not_mem_nil, or_false] at hu; rcases hu with rfl | rfl | rfl | rfl <;> rfl⟩
def amI (l : List (Value × Inp)) : List Int := l.map fun p => p.2.amount
def amO (l : List Outp) : List Int := l.map Outp.amount
theorem am_snoc {α : Type} (f : α → Int) {l : List α} {k : Nat} {p : α} (h : l[k]? = some p) : ((l.take (k + 1)).map f).map (Value.int .u64) = ((l.take k).map f).map (Value.int .u64) ++ [.int .u64 (f p)] := by
  rw [take_snoc h]; simp
def OwnU (w : World) (base : Nat) (A : Option Addr) (n c : Nat) (zs : List Value) : Prop := w.ownsRow base 27 1 (.slice A n c) n zs
theorem OwnU.grow {w w' : World} {base n c : Nat} {A : Option Addr} {zs : List Value} (h : OwnU w base A n c zs) (k : Grow w w') : OwnU w' base A n c zs := own_below h k
set_option maxRecDepth 100000 in
set_option maxHeartbeats 4000000 in
theorem amounts_any {A : Option Addr} {n c : Nat} {A2 : Option Addr} {n2 c2 : Nat} {fee ex : Int} {l : List (Value × Inp)} {os : List Outp} (w : World) (hi : InsAt w A n c l) (ho : OutsAt w A2 n2 c2 os) (hn : n ≤ 1000000) (hn2 : n2 ≤ 1000000) :
    Calls Tryd.prog 85 #[.agg (txV A n c A2 n2 c2 fee ex).toArray] w fun e w' => ∃ A3 c3 A4 c4, e = .returned (.tuple #[.slice A3 n c3, .slice A4 n2 c4]) ∧ OwnU w' w.heap.size A3 n c3 ((amI l).map (Value.int .u64)) ∧ OwnU w' w.heap.size A4 n2 c4 ((amO os).map (Value.int .u64)) ∧ Grow w w' := by
  have HI := Lib.hid hi; have HO := Lib.hid ho
  have HTC := Lib.hid (txV_cl (A := A) (n := n) (c := c) (A2 := A2) (n2 := n2) (c2 := c2) (fee := fee) (ex := ex))
  have HT0 := Lib.hid (show (txV A n c A2 n2 c2 fee ex)[0]? = some (.slice A n c) from rfl)
  have HT1 := Lib.hid (show (txV A n c A2 n2 c2 fee ex)[1]? = some (.slice A2 n2 c2) from rfl)
  obtain ⟨tv, htv⟩ : ∃ q, q = txV A n c A2 n2 c2 fee ex := ⟨_, rfl⟩
  rw [← htv] at HTC HT0 HT1 ⊢
  obtain ⟨w_, hw⟩ : ∃ x, x = w := ⟨_, rfl⟩
  have HB := Lib.hid (show Below w.heap.size w w_ by rw [hw]; exact Below.refl _ _)
  suffices H : Calls Tryd.prog 85 #[.agg tv.toArray] w_ fun e w' => ∃ A3 c3 A4 c4, e = .returned (.tuple #[.slice A3 n c3, .slice A4 n2 c4]) ∧ OwnU w' w.heap.size A3 n c3 ((amI l).map (Value.int .u64)) ∧ OwnU w' w.heap.size A4 n2 c4 ((amO os).map (Value.int .u64)) ∧ Grow w w' by rw [hw] at H; exact H
  clear hw hi ho htv
  go_enter Tryd.func85, Tryd.ntmps85
  go_wp2_with (first | (with_reducible refine wpl_box (o := ⟨some 1, _, _, _, _, _⟩) rfl rfl rfl ?_))
  intro w2_ hb2_ hb_ hsz2_
  have HX_ := Lib.hid (at_mk hb2_ HTC.out.len)
  clear hb2_ hsz2_
  have HG_ := Lib.hid HB.out.size
  have HB_ := Lib.hid (HB.out.grow' hb_)
  clear HB
  have HB := HB_
  clear HB_
  generalize hg_ : w_.heap.size = g1 at HX_ HG_ ⊢
  clear hg_
  have HX_g := HG_
  clear HG_
  have HX := HX_
  clear hb_ HX_
  try clear w_
  rename World => w_
  have c0 := HX.out.blk.at_ HT0.out
  go_upto_block 0 with fail
  go_cut [2] from 8 (fun s2 wr => ∃ A3 c3, s2 = .slice A3 n c3 ∧ Hid (OwnU wr (g1 + 1) A3 n c3 ((amI l).map (Value.int .u64)) ∧ At wr g1 50 4 tv ∧ Below w.heap.size w wr))
  case first =>
    go_wp2_with fail
    go_loopw [2, 11] (fun s2 iv wr => ∃ k : Nat, ∃ A3 c3, k ≤ n ∧ iv = .int .i64 k ∧ s2 = .slice A3 k c3 ∧ Hid (OwnU wr (g1 + 1) A3 k c3 (((l.take k).map fun p => p.2.amount).map (Value.int .u64)) ∧ At wr g1 50 4 tv ∧ Below w.heap.size w wr)) (fun _ iv _ => n - (intOf iv).toNat)
    case atStart => exact ⟨0, none, 0, by omega, rfl, rfl, Lib.hid ⟨World.ownsRow_nil _ _ _ _, HX.out, HB.out⟩⟩
    case round =>
      obtain ⟨k, A3, c3, hk, rfl, rfl, hI⟩ := hrel
      clear HX HB c0
      have HR := Lib.hid hI.out.1; have HX := Lib.hid hI.out.2.1; have HB := Lib.hid hI.out.2.2
      clear hI
      rename World => w_
      by_cases hlt : k < n
      · have HII := Lib.hid (HI.out.grow HB.out)
        obtain ⟨b, off, p, rfl, hp, hok, hc⟩ := HII.out.at_ hlt
        have HC := Lib.hid hc; have HP := Lib.hid hp
        have HPC := Lib.hid (inV_cl hok)
        have HP33 := Lib.hid (in_at (v := p.1) hok.2).2.1
        have HSN := Lib.hid (am_snoc (fun q : Value × Inp => q.2.amount) hp)
        obtain ⟨pv, hpv⟩ : ∃ q, q = inV p.1 p.2 := ⟨_, rfl⟩
        obtain ⟨am, ham⟩ : ∃ q, q = p.2.amount := ⟨_, rfl⟩
        rw [← hpv] at HC HPC
        rw [← hpv, ← ham] at HP33
        rw [← ham] at HSN
        obtain ⟨xs, hxs⟩ : ∃ q, q = (((l.take k).map fun p => p.2.amount).map (Value.int .u64)) := ⟨_, rfl⟩
        rw [← hxs] at HR HSN
        clear hp hok hc hpv ham HII hxs
        go_wp2_with (first | (with_reducible refine wpl_loadm (o := ⟨some 14, _, _, _, _, _⟩) rfl rfl row_tin HC.out rfl HPC.out.len ?_) | (with_reducible refine wpl_alloc (o := ⟨some 5, _, _, _, _, _⟩) rfl rfl zero_tin ?_))
        intro w1_ hb1_ hbw1_ hsz1_
        have HB1_ := Lib.hid (at_mk hb1_ len_tin)
        have HBW1_ := Lib.hid hbw1_
        have HZ1_ := Lib.hid hsz1_
        clear hb1_ hbw1_ hsz1_
        go_wp2_with (first | (with_reducible refine wpl_storeb (o := ⟨none, .store _ _ _, _, _, _, _⟩) rfl rfl row_tin HB1_.out.blk rfl rfl HB1_.out.len HPC.out.len HPC.out.one ?_))
        intro w2_ hb2_ hg2_ hsz2_
        have hb_ := var_grow HBW1_.out HZ1_.out hg2_
        have HX_ := Lib.hid (at_mk hb2_ HPC.out.len)
        clear hb2_ hg2_ hsz2_ HB1_ HBW1_ HZ1_
        have HB_ := Lib.hid (HB.out.grow' hb_)
        clear HB
        have HB := HB_
        clear HB_
        have HX_ := Lib.hid (HX.out.grow hb_)
        clear HX
        have HX := HX_
        clear HX_
        have HR_ := Lib.hid (HR.out.grow hb_)
        clear HR
        have HR := HR_
        clear HR_
        generalize hg_ : w_.heap.size = g5 at HX_ ⊢
        clear hg_
        have HE := HX_
        clear hb_ HX_
        clear w1_
        try clear w_
        rename World => w_
        have c33 := HE.out.blk.at_ HP33.out
        have HGZ := Lib.hid (show g1 + 1 ≤ w_.heap.size by have := HX.out.lt; omega)
        have HR3 := Lib.hid (show w_.ownsRow (g1 + 1) 27 1 (.slice A3 k c3) k xs from HR.out)
        go_wp2_with (first | (at_builtin; refine wpl_app1 rfl rfl el_us HR3.out rfl (m := 1) rfl ?_ ?_ ?_ ?_ ?_ ?_))
        · rfl
        · rfl
        · omega
        · omega
        · exact HGZ.out
        intro A4 c4 w4_ ho_ hg_ hA_
        have hne_ := own_from HR3.out
        have HX_ := Lib.hid (show At w4_ g1 50 4 tv from at_mk (HX.out.blk.grown hg_ (fun h => by have := hne_ _ h.symm; omega)) HX.out.len)
        have HB_ := Lib.hid (below_grown HB.out hg_ HB.out.size (fun x hx => by have := hne_ _ hx; have := HX_g.out; omega))
        have HR_ := Lib.hid (show OwnU w4_ (g1 + 1) A4 (k + 1) c4 (((l.take (k + 1)).map fun p => p.2.amount).map (Value.int .u64)) by rw [HSN.out]; exact ho_)
        clear ho_ hg_ hA_ hne_ HX HB HR HR3
        go_wp2_with fail
        go_roundw
        case rel => exact ⟨k + 1, A4, c4, by omega, by go_num, rfl, Lib.hid ⟨HR_.out, HX_.out, HB_.out⟩⟩
        case measure => simp [intOf]; omega
      · obtain rfl : k = n := by omega
        have HRN := Lib.hid (show OwnU w_ (g1 + 1) A3 k c3 ((amI l).map (Value.int .u64)) by have h := HR.out; rw [List.take_of_length_le (by have := HI.out.2.2.1; omega)] at h; exact h)
        go_wp2_with fail
        go_meet
        case rel => exact ⟨A3, c3, rfl, Lib.hid ⟨HRN.out, HX.out, HB.out⟩⟩
  case rest =>
    obtain ⟨A3_, c3_, rfl, hI⟩ := hcut
    clear HX HB c0
    have HU := Lib.hid hI.out.1; have HX := Lib.hid hI.out.2.1; have HB := Lib.hid hI.out.2.2
    clear hI
    try clear w_
    rename World => w_
    have c1 := HX.out.blk.at_ HT1.out
    obtain ⟨gs, hgs⟩ : ∃ q, q = w_.heap.size := ⟨_, rfl⟩
    have HG1 := Lib.hid (show g1 + 1 ≤ gs ∧ w.heap.size ≤ gs by have h1 := HX.out.lt; have h2 := HB.out.size; omega)
    have HUL := Lib.hid (show ∀ q, A3_.map Addr.block = some q → q < gs from fun q hq => by rw [hgs]; exact own_lt HU.out q hq)
    have HGS := Lib.hid (show gs ≤ w_.heap.size by omega)
    clear hgs
    go_wp2_with fail
    go_loopw [3, 24] (fun s3 iv wr => ∃ k : Nat, ∃ A3 c3, k ≤ n2 ∧ iv = .int .i64 k ∧ s3 = .slice A3 k c3 ∧ Hid (OwnU wr gs A3 k c3 (((os.take k).map Outp.amount).map (Value.int .u64)) ∧ At wr g1 50 4 tv ∧ Below w.heap.size w wr ∧ OwnU wr (g1 + 1) A3_ n c3_ ((amI l).map (Value.int .u64)) ∧ gs ≤ wr.heap.size)) (fun _ iv _ => n2 - (intOf iv).toNat)
    case atStart => exact ⟨0, none, 0, by omega, rfl, rfl, Lib.hid ⟨World.ownsRow_nil _ _ _ _, HX.out, HB.out, HU.out, HGS.out⟩⟩
    case round =>
      obtain ⟨k, A3, c3, hk, rfl, rfl, hI⟩ := hrel
      clear HX HB c1 HU HGS
      have HR := Lib.hid hI.out.1; have HX := Lib.hid hI.out.2.1; have HB := Lib.hid hI.out.2.2.1; have HU := Lib.hid hI.out.2.2.2.1; have HGS := Lib.hid hI.out.2.2.2.2
      clear hI
      rename World => w_
      by_cases hlt : k < n2
      · have HII := Lib.hid (HO.out.grow HB.out)
        obtain ⟨b, off, p, rfl, hp, hok, hc⟩ := HII.out.at_ hlt
        have HC := Lib.hid hc
        have HPC := Lib.hid (outV_cl hok)
        have HP33 := Lib.hid (out_at hok)
        have HSN := Lib.hid (am_snoc Outp.amount hp)
        obtain ⟨pv, hpv⟩ : ∃ q, q = outV p := ⟨_, rfl⟩
        obtain ⟨am, ham⟩ : ∃ q, q = p.amount := ⟨_, rfl⟩
        rw [← hpv] at HC HPC
        rw [← hpv, ← ham] at HP33
        rw [← ham] at HSN
        have HSZ := Lib.hid (show SzG w_ gs from HGS.out)
        obtain ⟨xs, hxs⟩ : ∃ q, q = (((os.take k).map Outp.amount).map (Value.int .u64)) := ⟨_, rfl⟩
        rw [← hxs] at HR HSN
        clear hp hok hc hpv ham HII hxs
        go_wp2_with (first | (with_reducible refine wpl_loadm (o := ⟨some 27, _, _, _, _, _⟩) rfl rfl row_tout HC.out rfl HPC.out.len ?_) | (with_reducible refine wpl_alloc (o := ⟨some 7, _, _, _, _, _⟩) rfl rfl zero_tout ?_))
        intro w1_ hb1_ hbw1_ hsz1_
        have HB1_ := Lib.hid (at_mk hb1_ len_tout)
        have HBW1_ := Lib.hid hbw1_
        have HZ1_ := Lib.hid hsz1_
        clear hb1_ hbw1_ hsz1_
        go_wp2_with (first | (with_reducible refine wpl_storeb (o := ⟨none, .store _ _ _, _, _, _, _⟩) rfl rfl row_tout HB1_.out.blk rfl rfl HB1_.out.len HPC.out.len HPC.out.one ?_))
        intro w2_ hb2_ hg2_ hsz2_
        have hb_ := var_grow HBW1_.out HZ1_.out hg2_
        have HX_ := Lib.hid (at_mk hb2_ HPC.out.len)
        clear hb2_ hg2_ hsz2_ HB1_ HBW1_ HZ1_
        have HB_ := Lib.hid (HB.out.grow' hb_)
        clear HB
        have HB := HB_
        clear HB_
        have HX_ := Lib.hid (HX.out.grow hb_)
        clear HX
        have HX := HX_
        clear HX_
        have HR_ := Lib.hid (HR.out.grow hb_)
        clear HR
        have HR := HR_
        clear HR_
        have HU_ := Lib.hid (HU.out.grow hb_)
        clear HU
        have HU := HU_
        clear HU_
        have HSZ_ := Lib.hid (HSZ.out.grow hb_)
        clear HSZ
        have HSZ := HSZ_
        clear HSZ_
        generalize hg_ : w_.heap.size = g7 at HX_ ⊢
        clear hg_
        have HE := HX_
        clear hb_ HX_
        clear w1_
        try clear w_
        rename World => w_
        have c33 := HE.out.blk.at_ HP33.out
        have HGZ := Lib.hid (show gs ≤ w_.heap.size from HSZ.out)
        have HR3 := Lib.hid (show w_.ownsRow gs 27 1 (.slice A3 k c3) k xs from HR.out)
        go_wp2_with (first | (at_builtin; refine wpl_app1 rfl rfl el_us HR3.out rfl (m := 1) rfl ?_ ?_ ?_ ?_ ?_ ?_))
        · rfl
        · rfl
        · omega
        · omega
        · exact HGZ.out
        intro A4 c4 w4_ ho_ hg_ hA_
        have hne_ := own_from HR3.out
        have HX_ := Lib.hid (show At w4_ g1 50 4 tv from at_mk (HX.out.blk.grown hg_ (fun h => by have := hne_ _ h.symm; have := HG1.out; omega)) HX.out.len)
        have HB_ := Lib.hid (below_grown HB.out hg_ HB.out.size (fun x hx => by have := hne_ _ hx; have := HX_g.out; have := HG1.out; omega))
        have HR_ := Lib.hid (show OwnU w4_ gs A4 (k + 1) c4 ((((os.take (k + 1)).map Outp.amount)).map (Value.int .u64)) by rw [HSN.out]; exact ho_)
        have HU_ := Lib.hid (show OwnU w4_ (g1 + 1) A3_ n c3_ ((amI l).map (Value.int .u64)) from own_kept HU.out hg_ (fun q hq he => by have h1 := hne_ _ he.symm; have h2 := HUL.out q (by rw [hq]; rfl); omega))
        have HSZ_ := Lib.hid (show gs ≤ w4_.heap.size from Nat.le_trans HGZ.out hg_.size)
        clear ho_ hg_ hA_ hne_ HX HB HR HR3 HU
        go_wp2_with fail
        go_roundw
        case rel => exact ⟨k + 1, A4, c4, by omega, by go_num, rfl, Lib.hid ⟨HR_.out, HX_.out, HB_.out, HU_.out, HSZ_.out⟩⟩
        case measure => simp [intOf]; omega
      · obtain rfl : k = n2 := by omega
        have HRN := Lib.hid (show OwnU w_ gs A3 k c3 ((amO os).map (Value.int .u64)) by have h := HR.out; rw [List.take_of_length_le (by have := HO.out.2.2.1; omega)] at h; exact h)
        go_wp2_with fail
        go_ret2
        exact ⟨_, _, _, _, rfl, own_base HU.out (by have := HX_g.out; omega), own_base HRN.out (by have := HG1.out; omega), HB.out⟩
end Go.Proofs.YtphmefhnffoafaaDoor

/- Contracts of tx.isLong and slices.Contains. -/
namespace Go.Proofs.YtphmefhnffoafaaDoor
open Go.RowKit Go.Shelf
set_option linter.unusedVariables false
theorem twithin_any (a b c : Int) (w : World) : Calls Tryd.prog 124 #[.int .i64 a, .int .i64 b, .int .i64 c] w fun e w' => e = .returned (.bool (inB a b c)) ∧ w = w' := by
  obtain ⟨p, hp⟩ : ∃ p, decide (b ≤ a) = p := ⟨_, rfl⟩
  obtain ⟨q, hq⟩ : ∃ q, decide (a ≤ c) = q := ⟨_, rfl⟩
  have HR := Lib.hid (show inB a b c = (p && q) by unfold inB; rw [← hp, ← hq])
  rw [HR.out]
  clear HR
  go_enter Tryd.func124, Tryd.ntmps124
  cases p <;> cases q <;> (go_wp2; go_ret; exact ⟨rfl, rfl⟩)
set_option maxRecDepth 100000 in
theorem long1_any {w : World} {pv : List Value} {A : Option Addr} {c : Nat} {i : Inp} (hp : pv = inV (.slice A i.secret.length c) i) (hk : i.ok) (w : World) :
    Calls Tryd.prog 126 #[.agg pv.toArray] w fun e w' => e = .returned (.bool (longI i)) ∧ Grow w w' := by
  have HPC := Lib.hid (show Cl 35 pv from ⟨by rw [hp]; exact inV_len hk, fun u hu => by
    rw [hp] at hu
    unfold inV at hu
    simp only [List.mem_append, List.mem_map, List.mem_cons, List.not_mem_nil, or_false] at hu
    rcases hu with ⟨_, _, rfl⟩ | rfl | rfl | rfl <;> rfl⟩)
  obtain ⟨n, hn⟩ : ∃ n, n = i.secret.length := ⟨_, rfl⟩
  obtain ⟨ix, hix⟩ : ∃ n, n = i.index := ⟨_, rfl⟩
  have H34 := Lib.hid (show pv[34]? = some (.slice A n c) by rw [hp, hn]; exact (in_at hk).2.2)
  have H32 := Lib.hid (show pv[32]? = some (.int .i64 ix) by rw [hp, hix]; exact (in_at hk).1)
  obtain ⟨p, hpp⟩ : ∃ p, decide ((64 : Int) < (n : Int)) = p := ⟨_, rfl⟩
  obtain ⟨q, hq⟩ : ∃ q, inB ix 0 15 = q := ⟨_, rfl⟩
  have HQ := Lib.hid (fun w => twithin_any ix 0 15 w)
  rw [hq] at HQ
  have HR := Lib.hid (show longI i = (p || !q) by unfold longI; rw [← hpp, ← hq, hn, hix]; congr 1; rw [Bool.eq_iff_iff]; simp; omega)
  rw [HR.out]
  clear HR hp hn hix hq
  obtain ⟨w_, hw⟩ : ∃ x, x = w := ⟨_, rfl⟩
  have HB := Lib.hid (show Below w.heap.size w w_ by rw [hw]; exact Below.refl _ _)
  suffices H : Calls Tryd.prog 126 #[.agg pv.toArray] w_ fun e w' => e = .returned (.bool (p || !q)) ∧ Grow w w' by rw [hw] at H; exact H
  clear hw
  go_enter Tryd.func126, Tryd.ntmps126
  go_wp2_with (first | (with_reducible refine wpl_box (o := ⟨some 1, _, _, _, _, _⟩) rfl rfl rfl ?_))
  intro w2_ hb2_ hb_ hsz2_
  have HX_ := Lib.hid (at_mk hb2_ HPC.out.len)
  clear hb2_ hsz2_
  have HG_ := Lib.hid HB.out.size
  have HB_ := Lib.hid (HB.out.grow' hb_)
  clear HB
  have HB := HB_
  clear HB_
  generalize hg_ : w_.heap.size = g1 at HX_ HG_ ⊢
  clear hg_
  have HX_g := HG_
  clear HG_
  have HX := HX_
  clear hb_ HX_
  try clear w_
  rename World => w_
  have c34 := HX.out.blk.at_ H34.out
  have c32 := HX.out.blk.at_ H32.out
  cases p with
  | true =>
    go_wp2_with fail
    go_ret
    exact ⟨rfl, HB.out⟩
  | false =>
    go_wp2_with fail
    refine (HQ.out _).mono ?_
    rintro e w2_ ⟨rfl, rfl⟩
    go_wp2_with fail
    go_ret
    exact ⟨by first | rfl | simp, HB.out⟩
theorem any_take {α : Type} (f : α → Bool) {l : List α} {k : Nat} {p : α} (h : l[k]? = some p) : (l.take (k + 1)).any f = ((l.take k).any f || f p) := by
  rw [take_snoc h, List.any_append]; simp
set_option maxRecDepth 100000 in
set_option maxHeartbeats 2000000 in
theorem indexf_any {A : Option Addr} {n c : Nat} {l : List (Value × Inp)} (w : World) (hi : InsAt w A n c l) (hn : n ≤ 1000000) :
    Calls Tryd.prog 146 #[.slice A n c, .func (.func 126) #[] #[]] w fun e w' => ∃ r : Int, e = .returned (.int .i64 r) ∧ (0 ≤ r ↔ (l.map Prod.snd).any longI = true) ∧ Grow w w' := by
  have HI := Lib.hid hi
  obtain ⟨w_, hw⟩ : ∃ x, x = w := ⟨_, rfl⟩
  have HB := Lib.hid (show Below w.heap.size w w_ by rw [hw]; exact Below.refl _ _)
  suffices H : Calls Tryd.prog 146 #[.slice A n c, .func (.func 126) #[] #[]] w_ fun e w' => ∃ r : Int, e = .returned (.int .i64 r) ∧ (0 ≤ r ↔ (l.map Prod.snd).any longI = true) ∧ Grow w w' by rw [hw] at H; exact H
  clear hw hi
  go_enter Tryd.func146, Tryd.ntmps146
  go_wp2_with fail
  go_loopw [8] (fun iv wr => ∃ k : Nat, k ≤ n ∧ iv = .int .i64 k ∧ Hid (((l.map Prod.snd).take k).any longI = false ∧ Below w.heap.size w wr)) (fun iv _ => n - (intOf iv).toNat)
  case atStart => exact ⟨0, by omega, rfl, Lib.hid ⟨by simp, HB.out⟩⟩
  case round =>
    obtain ⟨k, hk, rfl, hI⟩ := hrel
    clear HB
    have HN := Lib.hid hI.out.1; have HB := Lib.hid hI.out.2
    clear hI
    rename World => w_
    by_cases hlt : k < n
    · have HII := Lib.hid (HI.out.grow HB.out)
      obtain ⟨b, off, p, rfl, hp, hok, hc⟩ := HII.out.at_ hlt
      have HC := Lib.hid hc
      have HPC := Lib.hid (inV_cl hok)
      obtain ⟨A4, c4, e4, _, _⟩ := hok.1
      have HL := Lib.hid (fun w => long1_any (w := w) (pv := inV p.1 p.2) (A := A4) (c := c4) (by rw [e4]) hok.2 w)
      have HSN := Lib.hid (any_take longI (l := l.map Prod.snd) (k := k) (p := p.2) (by rw [List.getElem?_map, hp]; rfl))
      have HME := Lib.hid (show p.2 ∈ l.map Prod.snd from List.mem_map_of_mem (List.mem_of_getElem? hp))
      obtain ⟨pv, hpv⟩ : ∃ q, q = inV p.1 p.2 := ⟨_, rfl⟩
      rw [← hpv] at HC HPC HL
      obtain ⟨lg, hlg⟩ : ∃ q, q = longI p.2 := ⟨_, rfl⟩
      have HLG := Lib.hid hlg
      rw [← hlg] at HL HSN
      clear hp hok hc hpv hlg e4 HII
      go_wp2_with (first | (with_reducible refine wpl_loadm (o := ⟨some 15, _, _, _, _, _⟩) rfl rfl row_tin HC.out rfl HPC.out.len ?_))
      refine (HL.out _).mono ?_
      rintro e w2_ ⟨rfl, hb_⟩
      have HB_ := Lib.hid (HB.out.grow' hb_)
      clear hb_ HB HL
      cases lg with
      | true =>
        go_wp2_with fail
        go_ret
        exact ⟨_, rfl, ⟨fun _ => List.any_eq_true.2 ⟨_, HME.out, HLG.out.symm⟩, fun _ => by omega⟩, HB_.out⟩
      | false =>
        go_wp2_with fail
        go_roundw
        case rel => exact ⟨k + 1, by omega, by go_num, Lib.hid ⟨by rw [HSN.out, HN.out]; rfl, HB_.out⟩⟩
        case measure => simp [intOf]; omega
    · obtain rfl : k = n := by omega
      have HAN := Lib.hid (show (l.map Prod.snd).any longI = false by have h := HN.out; rw [List.take_of_length_le (by rw [List.length_map]; have := HI.out.2.2.1; omega)] at h; exact h)
      go_wp2_with fail
      go_ret
      exact ⟨_, rfl, ⟨fun h => by omega, fun h => by rw [HAN.out] at h; cases h⟩, HB.out⟩
theorem containsf_any {A : Option Addr} {n c : Nat} {l : List (Value × Inp)} (w : World) (hi : InsAt w A n c l) (hn : n ≤ 1000000) :
    Calls Tryd.prog 125 #[.slice A n c, .func (.func 126) #[] #[]] w fun e w' => e = .returned (.bool ((l.map Prod.snd).any longI)) ∧ Grow w w' := by
  have HI := Lib.hid hi
  have HX := Lib.hid (fun w h => indexf_any (A := A) (n := n) (c := c) (l := l) w h hn)
  obtain ⟨q, hq⟩ : ∃ q, q = (l.map Prod.snd).any longI := ⟨_, rfl⟩
  rw [← hq] at HX ⊢
  clear hi hq
  go_enter Tryd.func125, Tryd.ntmps125
  go_wp2_with fail
  refine (HX.out _ HI.out).mono ?_
  rintro e w2_ ⟨r, rfl, hr, hb⟩
  have HB := Lib.hid hb
  cases q with
  | true =>
    have d0 : decide ((0 : Int) ≤ r) = true := by simpa using hr
    have h0 : 0 ≤ r := by simpa using hr
    clear hr hb
    go_wp2_with fail
    go_ret
    exact ⟨by first | rfl | simp, HB.out⟩
  | false =>
    have h0 : ¬ 0 ≤ r := by simpa using hr
    have d0 : decide ((0 : Int) ≤ r) = false := by simpa using h0
    clear hr hb
    go_wp2_with fail
    go_ret
    exact ⟨by first | rfl | simp, HB.out⟩
set_option maxRecDepth 100000 in
set_option maxHeartbeats 2000000 in
theorem islong_any {A : Option Addr} {n c : Nat} {A2 : Option Addr} {n2 c2 : Nat} {fee ex : Int} {l : List (Value × Inp)} {os : List Outp} (w : World) (hi : InsAt w A n c l) (hos : os.length = n2) (hn : n ≤ 1000000) (hn2 : n2 ≤ 1000000) (hex : I64 ex) :
    Calls Tryd.prog 86 #[.agg (txV A n c A2 n2 c2 fee ex).toArray] w fun e w' => e = .returned (.bool (longT ⟨l.map Prod.snd, os, fee, ex⟩)) ∧ Grow w w' := by
  have HI := Lib.hid hi
  have HTC := Lib.hid (txV_cl (A := A) (n := n) (c := c) (A2 := A2) (n2 := n2) (c2 := c2) (fee := fee) (ex := ex))
  have HT0 := Lib.hid (show (txV A n c A2 n2 c2 fee ex)[0]? = some (.slice A n c) from rfl)
  have HT1 := Lib.hid (show (txV A n c A2 n2 c2 fee ex)[1]? = some (.slice A2 n2 c2) from rfl)
  have HT3 := Lib.hid (show (txV A n c A2 n2 c2 fee ex)[3]? = some (.int .i64 ex) from rfl)
  obtain ⟨tv, htv⟩ : ∃ q, q = txV A n c A2 n2 c2 fee ex := ⟨_, rfl⟩
  rw [← htv] at HTC HT0 HT1 HT3 ⊢
  obtain ⟨p, hp⟩ : ∃ p, inB (n : Int) 1 16 = p := ⟨_, rfl⟩
  obtain ⟨q, hq⟩ : ∃ p, inB (n2 : Int) 1 16 = p := ⟨_, rfl⟩
  obtain ⟨r, hr⟩ : ∃ p, inB ex 0 1099511627776 = p := ⟨_, rfl⟩
  have W1 := Lib.hid (fun w => twithin_any (n : Int) 1 16 w); have W2 := Lib.hid (fun w => twithin_any (n2 : Int) 1 16 w); have W3 := Lib.hid (fun w => twithin_any ex 0 1099511627776 w)
  rw [hp] at W1
  rw [hq] at W2
  rw [hr] at W3
  have HR := Lib.hid (show longT ⟨l.map Prod.snd, os, fee, ex⟩ = (!(p && q && r) || (l.map Prod.snd).any longI) by unfold longT shortT; simp only [List.length_map]; rw [hi.2.2.1, hos, hp, hq, hr])
  have HCF := Lib.hid (fun w h => containsf_any (A := A) (n := n) (c := c) (l := l) w h hn)
  obtain ⟨z, hz⟩ : ∃ z, z = (l.map Prod.snd).any longI := ⟨_, rfl⟩
  rw [← hz] at HR HCF
  rw [HR.out]
  obtain ⟨w_, hw⟩ : ∃ x, x = w := ⟨_, rfl⟩
  have HB := Lib.hid (show Below w.heap.size w w_ by rw [hw]; exact Below.refl _ _)
  suffices H : Calls Tryd.prog 86 #[.agg tv.toArray] w_ fun e w' => e = .returned (.bool (!(p && q && r) || z)) ∧ Grow w w' by rw [hw] at H; exact H
  clear hw hi htv hp hq hr hz HR hex hos
  go_enter Tryd.func86, Tryd.ntmps86
  go_wp2_with (first | (with_reducible refine wpl_box (o := ⟨some 1, _, _, _, _, _⟩) rfl rfl rfl ?_))
  intro w2_ hb2_ hb_ hsz2_
  have HX_ := Lib.hid (at_mk hb2_ HTC.out.len)
  clear hb2_ hsz2_
  have HG_ := Lib.hid HB.out.size
  have HB_ := Lib.hid (HB.out.grow' hb_)
  clear HB
  have HB := HB_
  clear HB_
  generalize hg_ : w_.heap.size = g1 at HX_ HG_ ⊢
  clear hg_
  have HX_g := HG_
  clear HG_
  have HX := HX_
  clear hb_ HX_
  try clear w_
  rename World => w_
  have c0 := HX.out.blk.at_ HT0.out
  have c1 := HX.out.blk.at_ HT1.out
  have c3 := HX.out.blk.at_ HT3.out
  go_wp2_with fail
  refine (W1.out _).mono ?_
  rintro e w2_ ⟨rfl, rfl⟩
  cases p with
  | false =>
    go_wp2_with fail
    go_ret
    exact ⟨by first | rfl | simp, HB.out⟩
  | true =>
    go_wp2_with fail
    refine (W2.out _).mono ?_
    rintro e w2_ ⟨rfl, rfl⟩
    cases q with
    | false =>
      go_wp2_with fail
      go_ret
      exact ⟨by first | rfl | simp, HB.out⟩
    | true =>
      go_wp2_with fail
      refine (W3.out _).mono ?_
      rintro e w2_ ⟨rfl, rfl⟩
      cases r with
      | false =>
        go_wp2_with fail
        go_ret
        exact ⟨by first | rfl | simp, HB.out⟩
      | true =>
        go_wp2_with fail
        refine (HCF.out _ (HI.out.grow HB.out)).mono ?_
        rintro e w2_ ⟨rfl, hb_⟩
        have HB_ := Lib.hid (HB.out.grow' hb_)
        go_wp2_with fail
        go_ret
        exact ⟨by first | rfl | simp, HB_.out⟩
set_option maxRecDepth 100000 in
set_option maxHeartbeats 2000000 in
theorem index64_any {A : Option Addr} {n c : Nat} {zs : List Int} {x : Int} (w : World) (hs : Sl w w.heap.size 1 A n (zs.map (Value.int .u64))) (hn : n ≤ 1000000) :
    Calls Tryd.prog 127 #[.slice A n c, .int .u64 x] w fun e w' => ∃ r : Int, e = .returned (.int .i64 r) ∧ (0 ≤ r ↔ x ∈ zs) ∧ w = w' := by
  have HS := Lib.hid hs
  have hl : zs.length = n := by have := hs.len; simpa using this
  have HL := Lib.hid hl
  clear hs hl
  go_enter Tryd.func127, Tryd.ntmps127
  go_wp2_with fail
  go_loopw [8] (fun iv wr => ∃ k : Nat, k ≤ n ∧ iv = .int .i64 k ∧ Hid (x ∉ zs.take k) ∧ wr = w) (fun iv _ => n - (intOf iv).toNat)
  case atStart => exact ⟨0, by omega, rfl, Lib.hid (by simp), rfl⟩
  case round =>
    obtain ⟨k, hk, rfl, hnot, rfl⟩ := hrel
    by_cases hlt : k < n
    · obtain ⟨b, off, u, rfl, hb, hu, hc⟩ := HS.out.at_ hlt
      rw [List.getElem?_map] at hu
      obtain ⟨z, hz, rfl⟩ := Option.map_eq_some_iff.1 hu
      have HZ := Lib.hid hz
      have hc1 := hc
      clear hu hz hb hc
      by_cases hxz : x = z
      · subst hxz
        have HME := Lib.hid (List.mem_of_getElem? HZ.out)
        go_wp2_with fail
        go_ret
        exact ⟨_, rfl, ⟨fun _ => HME.out, fun _ => by omega⟩, rfl⟩
      · have d0 : (x == z) = false := by simpa using hxz
        have HNN := Lib.hid (show x ∉ zs.take (k + 1) by rw [take_snoc HZ.out]; simp only [List.mem_append, List.mem_cons, List.not_mem_nil, or_false]; rintro (h | h); exact hnot.out h; exact hxz h)
        clear hxz
        go_wp2_with fail
        go_roundw
        case rel => exact ⟨k + 1, by omega, by go_num, HNN, by first | trivial | rfl⟩
        case measure => simp [intOf]; omega
    · obtain rfl : k = n := by omega
      have HNA := Lib.hid (show x ∉ zs by have h := hnot.out; rw [List.take_of_length_le (by have := HL.out; omega)] at h; exact h)
      go_wp2_with fail
      go_ret
      exact ⟨_, rfl, ⟨fun h => by omega, fun h => absurd h HNA.out⟩, rfl⟩
theorem contains64_any {A : Option Addr} {n c : Nat} {zs : List Int} {x : Int} (w : World) (hs : Sl w w.heap.size 1 A n (zs.map (Value.int .u64))) (hn : n ≤ 1000000) :
    Calls Tryd.prog 88 #[.slice A n c, .int .u64 x] w fun e w' => e = .returned (.bool (zs.contains x)) ∧ w = w' := by
  have HX := Lib.hid (index64_any (A := A) (n := n) (c := c) (zs := zs) (x := x) w hs hn)
  obtain ⟨q, hq⟩ : ∃ q, q = zs.contains x := ⟨_, rfl⟩
  have HQ := Lib.hid (show q = true ↔ x ∈ zs by rw [hq]; exact List.contains_iff_mem)
  rw [← hq]
  clear hs hq
  go_enter Tryd.func88, Tryd.ntmps88
  go_wp2_with fail
  refine HX.out.mono ?_
  rintro e w2_ ⟨r, rfl, hr, rfl⟩
  rw [← HQ.out] at hr
  cases q with
  | true =>
    have h0 : 0 ≤ r := by simpa using hr
    have d0 : decide ((0 : Int) ≤ r) = true := by simpa using h0
    clear hr
    go_wp2_with fail
    go_ret
    exact ⟨by first | rfl | simp, rfl⟩
  | false =>
    have h0 : ¬ 0 ≤ r := by simpa using hr
    have d0 : decide ((0 : Int) ≤ r) = false := by simpa using h0
    clear hr
    go_wp2_with fail
    go_ret
    exact ⟨by first | rfl | simp, rfl⟩
end Go.Proofs.YtphmefhnffoafaaDoor

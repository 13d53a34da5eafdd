/- Contract of sha.Under. -/
import Derived.Test.YtnnjjbkdjkjnpaaGreatDoorSpendNoneT6
import Derived.Lib.Strings
import Derived.Lib.BitFns
import Derived.Test.YtnnjjbkdjkjnpaaGreatDoorSpendNoneT4
set_option linter.unusedSimpArgs false
/- Contract of sha.Under. -/
namespace Go.Proofs.YtnnjjbkdjkjnpaaGreatDoor
open Go.RowKit Go.Shelf
set_option linter.unusedVariables false
def longB (bs : List UInt8) : List UInt8 := beBytes bs.length 4 ++ bs
def underB (m : UInt8) (ls : List (List UInt8)) : List UInt8 := m :: ls.flatMap longB
theorem underB_snoc (m : UInt8) (ls : List (List UInt8)) (x : List UInt8) : underB m (ls ++ [x]) = underB m ls ++ (beBytes x.length 4 ++ x) := by
  unfold underB; rw [List.flatMap_append]; simp [longB]
theorem beBytes_len (v n : Nat) : (beBytes v n).length = n := by unfold beBytes; simp
theorem underB_le (m : UInt8) (ls : List (List UInt8)) (N : Nat) (h : ∀ l ∈ ls, l.length ≤ N) : (underB m ls).length ≤ 1 + ls.length * (4 + N) := by
  unfold underB
  induction ls with
  | nil => simp
  | cons x xs ih =>
    have h1 := h x (by simp)
    have h2 := ih fun l hl => h l (by simp [hl])
    simp only [List.flatMap_cons, List.length_cons, List.length_append, longB, beBytes_len, Nat.succ_mul] at *
    omega
theorem info_su8 : (Tryz.prog.info? 70).map (fun i => (i.zero, i.size, i.bytes)) = some (some (.slice none 0 0), 1, 24) := by kernel_rfl
theorem el_su8 : ElemT Tryz.prog 168 70 1 24 := elemT Tryz.underlying168 info_su8 rfl (by omega)
/-- A part that no append onto the row 'row' turns. -/
def PartIn (w : World) (row : Option Nat) (p : Value × List UInt8) : Prop := ∃ A c, p.1 = .slice A p.2.length c ∧ p.2.length ≤ c ∧ Sl w w.heap.size 1 A p.2.length (p.2.map B) ∧ (0 < p.2.length → A.map Addr.block ≠ row)
theorem PartIn.grow {w w2 : World} {row : Option Nat} {p : Value × List UInt8} (h : PartIn w row p) (k : Grow w w2) : PartIn w2 row p := by
  obtain ⟨A, c, h1, h2, h3, h4⟩ := h
  exact ⟨A, c, h1, h2, h3.grow k, h4⟩
theorem PartIn.step {w w2 : World} {row row' : Option Nat} {p : Value × List UInt8} (h : PartIn w row p) (hg : w.grownBy w2 row) (hA : row' = row ∨ ∃ j, row' = some (w.heap.size + j)) : PartIn w2 row' p := by
  obtain ⟨A, c, h1, h2, h3, h4⟩ := h
  refine ⟨A, c, h1, h2, ⟨h3.1, fun hn => ?_⟩, fun hn => ?_⟩
  · obtain ⟨b, off, e, hb, hc⟩ := h3.2 hn
    refine ⟨b, off, e, Nat.lt_of_lt_of_le hb hg.size, fun j u hu => hg.cell (hc j u hu) ?_⟩
    have := h4 hn
    rw [e] at this
    exact this
  · obtain ⟨b, off, e, hb, hc⟩ := h3.2 hn
    rcases hA with hA | ⟨j, hA⟩
    · rw [hA]; exact h4 hn
    · rw [hA, e]
      intro hh
      simp only [Option.map_some, Option.some.injEq] at hh
      omega
theorem PartIn.ok {w : World} {row : Option Nat} {p : Value × List UInt8} (h : PartIn w row p) : PartOK w w.heap.size p := by
  obtain ⟨A, c, h1, h2, h3, h4⟩ := h
  exact ⟨A, c, h1, h2, h3⟩
theorem PartIn.of {w : World} {row : Option Nat} {Bd : Nat} {p : Value × List UInt8} (h : PartOK w Bd p) (hB : Bd ≤ w.heap.size) (hr : ∀ g, row = some g → Bd ≤ g) : PartIn w row p := by
  obtain ⟨A, c, h1, h2, h3⟩ := h
  refine ⟨A, c, h1, h2, h3.more hB, fun hn hh => ?_⟩
  obtain ⟨b, off, e, hb, _⟩ := h3.2 hn
  rw [e] at hh
  have := hr b hh.symm
  omega
theorem PartIn.own {w : World} {row : Option Nat} {base n c : Nat} {A : Option Addr} {bs : List UInt8} (h : w.ownsRow base 5 1 (.slice A n c) n (bs.map B)) (hc : n ≤ c) (hr : ∀ g, row = some g → g < base) : PartIn w row (.slice A n c, bs) := by
  have e : bs.length = n := by have := h.1; simpa using this
  refine ⟨A, c, by rw [e], by rw [e]; exact hc, by rw [e]; exact Sl.of_own h, fun _ hh => ?_⟩
  have := own_from h
  rcases A with _ | a
  · simp only [Option.map_none] at hh
    have h0 := (Sl.of_own h).2
    rename_i hpos
    obtain ⟨b, off, e2, _⟩ := h0 (by simp only at hpos; omega)
    cases e2
  · have h1 := this a.block rfl
    have h2 := hr a.block hh.symm
    omega
def UInv (w wr : World) (A : Option Addr) (c k : Nat) (qs ps : List (Value × List UInt8)) (m : UInt8) : Prop :=
  wr.ownsRow (w.heap.size + 1) 70 1 (.slice A (2 * k + 1) c) (2 * k + 1) (qs.map Prod.fst) ∧ (∀ q ∈ qs, PartIn wr (A.map Addr.block) q) ∧ cat qs = underB m ((ps.take k).map Prod.snd) ∧ Below w.heap.size w wr ∧ At wr w.heap.size 46 32 (List.replicate 32 (B 0))
theorem u_step {w wr w2 w4 : World} {A A4 : Option Addr} {c c4 k g4 : Nat} {qs ps : List (Value × List UInt8)} {m : UInt8} {p : Value × List UInt8} (h : UInv w wr A c k qs ps m) (hp : PartOK wr w.heap.size p) (hk : ps[k]? = some p)
    (hb2 : Below wr.heap.size wr w2) (ho4 : w2.ownsRow wr.heap.size 5 1 (.slice (some ⟨g4, 0, none⟩) 4 4) 4 ((beBytes p.2.length 4).map B))
    (ho : w4.ownsRow (w.heap.size + 1) 70 1 (.slice A4 (2 * k + 1 + 2) c4) (2 * k + 1 + 2) (qs.map Prod.fst ++ [.slice (some ⟨g4, 0, none⟩) 4 4, p.1]))
    (hg : w2.grownBy w4 (A.map Addr.block)) (hA : A4.map Addr.block = A.map Addr.block ∨ A4.map Addr.block = some (w2.heap.size + 1)) :
    UInv w w4 A4 c4 (k + 1) (qs ++ [(.slice (some ⟨g4, 0, none⟩) 4 4, beBytes p.2.length 4), p]) ps m := by
  obtain ⟨h1, h2, h3, h4, h5⟩ := h
  have hA' : A4.map Addr.block = A.map Addr.block ∨ ∃ j, A4.map Addr.block = some (w2.heap.size + j) := hA.imp_right fun e => ⟨1, e⟩
  have hfrom := own_from h1
  have hlt : ∀ g, A.map Addr.block = some g → g < wr.heap.size := fun g hg => (h1.lt g (by cases A <;> simp_all [Value.ownBlock])).2
  have e : 2 * (k + 1) + 1 = 2 * k + 1 + 2 := by omega
  refine ⟨?_, ?_, ?_, ?_, ?_⟩
  · rw [e, List.map_append]; exact ho
  · intro q hq
    simp only [List.mem_append, List.mem_cons, List.not_mem_nil, or_false] at hq
    rcases hq with hq | rfl | rfl
    · exact ((h2 q hq).grow hb2).step hg hA'
    · exact (PartIn.own ho4 (Nat.le_refl _) hlt).step hg hA'
    · exact ((PartIn.of hp h4.size (fun g hg => by have := hfrom g hg; omega)).grow hb2).step hg hA'
  · have e2 : cat (qs ++ [(.slice (some ⟨g4, 0, none⟩) 4 4, beBytes p.2.length 4), p]) = cat qs ++ (beBytes p.2.length 4 ++ p.2) := by unfold cat; simp
    rw [e2, h3, List.take_add_one, hk, Option.toList_some, List.map_append, List.map_cons, List.map_nil, underB_snoc]
  · exact (h4.trans (hb2.mono h4.size)).grown hg (Nat.le_trans h4.size hb2.size) fun g hg => by have := hfrom g hg; omega
  · refine ⟨(h5.1.grow hb2).grown hg fun hh => ?_, h5.2⟩
    have := hfrom _ hh.symm
    omega
theorem u_end {w wr : World} {A : Option Addr} {c n : Nat} {qs ps : List (Value × List UInt8)} {m : UInt8} (h : UInv w wr A c n qs ps m) (hn : ps.length = n) : Parts wr wr.heap.size A (2 * n + 1) qs ∧ cat qs = underB m (ps.map Prod.snd) := by
  obtain ⟨h1, h2, h3, _, _⟩ := h
  refine ⟨parts_mk (Sl.of_own h1) fun q hq => (h2 q hq).ok, ?_⟩
  rw [h3, List.take_of_length_le (by omega)]
theorem u_start {w w1 : World} {m : UInt8} {ps : List (Value × List UInt8)} (h : Below w.heap.size w w1) (hz : w.heap.size + 1 ≤ w1.heap.size) (hr : At w1 w.heap.size 46 32 (List.replicate 32 (B 0))) :
    UInv w ((w1.alloc (.cells #[B m] 5)).alloc (.cells #[.slice (some ⟨w1.heap.size, 0, none⟩) 1 1] 70)) (some ⟨w1.heap.size + 1, 0, none⟩) 1 0 [(.slice (some ⟨w1.heap.size, 0, none⟩) 1 1, [m])] ps m := by
  have h1 := alloc_new w1 #[B m] 5
  have h2 := alloc_new (w1.alloc (.cells #[B m] 5)) #[.slice (some ⟨w1.heap.size, 0, none⟩) 1 1] 70
  refine ⟨?_, ?_, ?_, ?_, ?_⟩
  · have := World.ownsRow_lit (base := w.heap.size + 1) (e := 70) (size := 1) (w1.alloc (.cells #[B m] 5)) #[.slice (some ⟨w1.heap.size, 0, none⟩) 1 1] 1 (by rw [h1.2.2]; omega) (by simp [maxLen]) rfl
    rw [h1.2.2] at this
    exact this
  · intro q hq
    simp only [List.mem_cons, List.not_mem_nil, or_false] at hq
    subst hq
    refine PartIn.grow ⟨_, _, rfl, Nat.le_refl _, h1.1.sl rfl, fun _ hh => ?_⟩ h2.2.1
    simp only [Option.map_some, Option.some.injEq] at hh
    omega
  · unfold cat; simp [underB]
  · exact h.grow' (Grow.trans _ _ _ h1.2.1 h2.2.1)
  · exact hr.grow (Grow.trans _ _ _ h1.2.1 h2.2.1)
attribute [irreducible] underB longB
set_option maxRecDepth 100000 in
set_option maxHeartbeats 1000000 in
theorem under_any (m : UInt8) (A : Option Addr) (n c : Nat) (ps : List (Value × List UInt8)) {xs : List Value} (hx : Dig xs (sha (underB m (ps.map Prod.snd)))) (w : World) (hp : Parts w w.heap.size A n ps) (hn : n ≤ 400000) (hl : ∀ p ∈ ps, p.2.length ≤ 1000000) (ht : Tabs w) :
    Calls Tryz.prog 76 #[B m, .slice A n c] w fun e w' => e = .returned (.agg xs.toArray) ∧ Below w.heap.size w w' := by
  have HT := Lib.hid ht; have HP := Lib.hid hp; have HD := Lib.hid hx; have HL := Lib.hid hl
  have HB := Lib.hid (Below.refl w.heap.size w)
  have HN := Lib.hid hp.len
  clear hp ht hx hl
  show Calls Tryz.prog 76 #[.int .u8 (b8 m), .slice A n c] w _
  go_enter Tryz.func76, Tryz.ntmps76
  go_wp2_with (first | (with_reducible refine wpl_alloc (o := ⟨some 4, _, _, _, _, _⟩) rfl rfl zero_id ?_))
  intro w2_ hb2_ hb_ hsz2_
  have HX_ := Lib.hid (at_mk hb2_ len_id)
  clear hb2_ hsz2_
  have HB_ := Lib.hid (HB.out.grow' hb_)
  clear HB
  have HB := HB_
  clear HB_
  have HR := HX_
  clear hb_ HX_
  try clear w_
  rename World => w_
  have HS := Lib.hid (u_start (m := m) (ps := ps) HB.out (by have := HR.out.lt; omega) HR.out)
  go_wp2_with fail
  go_loopw [5, 13] (fun v i wr => ∃ k : Nat, ∃ A' c' qs, k ≤ n ∧ i = .int .i64 k ∧ v = .slice A' (2 * k + 1) c' ∧ Hid (UInv w wr A' c' k qs ps m)) (fun _ i _ => n - (intOf i).toNat)
  case atStart => exact ⟨0, _, _, _, by omega, rfl, rfl, HS⟩
  case round =>
    obtain ⟨k, A3, c3, qs, hk, rfl, rfl, hinv⟩ := hrel
    clear HS HB HR
    by_cases hlt : k < n
    · obtain ⟨b, off, A2, c2, bs, rfl, hps, hc, hcc, hs⟩ := (HP.out.below hinv.out.2.2.2.1).at_ hlt
      have HPK := Lib.hid (show PartOK _ w.heap.size (.slice A2 bs.length c2, bs) from ⟨A2, c2, rfl, hcc, hs⟩)
      have HPS := Lib.hid hps
      have hbl : bs.length ≤ 1000000 := HL.out _ (List.mem_of_getElem? hps)
      have hb64 : bs.length < 18446744073709551616 := by omega
      clear hps hs hcc
      go_wp2_with fail
      refine (bytes_any bs.length 4 _ hb64 (by omega) (by omega)).mono ?_
      rintro e w2 ⟨g4, rfl, ho4, hb2⟩
      have HO4 := Lib.hid ho4; have HB2 := Lib.hid hb2
      clear ho4 hb2
      have HOA := Lib.hid (own_below hinv.out.1 HB2.out)
      have hbl2 := hbl
      go_wp2_with (at_builtin; refine wpl_app1 rfl rfl el_su8 HOA.out rfl (m := 2) rfl rfl ?_ ?_ ?_ ?_ ?_)
      · exact ⟨rfl, rfl⟩
      · omega
      · omega
      · have h1 := hinv.out.2.2.2.2.lt; have h2 := HB2.out.size; omega
      · intro A4 c4 w4 ho hg hA
        have HI := Lib.hid (u_step hinv.out HPK.out HPS.out HB2.out HO4.out ho hg (hA.imp_right fun ⟨a, h1, h2⟩ => by rw [h1]; exact congrArg some h2))
        clear ho hg hA
        go_wp2_with fail
        go_roundw
        case rel => exact ⟨k + 1, A4, c4, _, by omega, by go_num, by congr 1 <;> omega, HI⟩
        case measure => simp [intOf]; omega
    · obtain rfl : k = n := by omega
      have HE := Lib.hid (u_end hinv.out HN.out)
      have HT2 := Lib.hid (HT.out.below hinv.out.2.2.2.1)
      have HB := Lib.hid hinv.out.2.2.2.1
      have HR := Lib.hid hinv.out.2.2.2.2
      clear HT
      go_wp2_with fail
      refine (dsum_any _ _ _ _ HD.out HE.out.2 _ HE.out.1 (by omega) (Nat.le_trans (underB_le m _ 1000000 (fun l hl => by obtain ⟨p, hp, rfl⟩ := List.mem_map.1 hl; exact HL.out p hp)) (by rw [List.length_map, HN.out]; omega)) HT2.out).mono ?_
      rintro e w5 ⟨rfl, hb_⟩
      have HR5 := Lib.hid (HR.out.grow hb_)
      have HB5 := Lib.hid (HB.out.grow' hb_)
      clear hb_ HR HB HT2 HE hinv
      have HR := HR5; have HB := HB5; clear HR5 HB5
      have HG := Lib.hid (Nat.le_refl w.heap.size)
      go_wp2_with (first | (with_reducible refine wpl_storeb (o := ⟨none, .store _ _ _, _, _, _, _⟩) rfl rfl row_id HR.out.blk rfl rfl HR.out.len HD.out.len HD.out.one ?_))
      intro w2_ hb2_ hg2_ hsz2_
      have HB_ := Lib.hid (put_below HB.out HG.out hg2_)
      have HX_ := Lib.hid (at_mk hb2_ HD.out.len)
      clear hb2_ hg2_ hsz2_ HB HR
      have HB := HB_
      have HR := HX_
      clear HB_ HX_
      try clear w_
      rename World => w_
      go_wp2_with fail
      exact ret_cell rfl row_id HR.out.blk rfl HR.out.len rfl ⟨rfl, HB.out⟩
end Go.Proofs.YtnnjjbkdjkjnpaaGreatDoor
/- Contracts of layer 5: the length of a number, the first part, a leaf's and a node's digest; the document's. -/
namespace Go.Proofs.YtnnjjbkdjkjnpaaGreatDoor
open Go.RowKit Go.Shelf
set_option linter.unusedVariables false
/-- The greatest power of two below n. -/
def halfN (n : Nat) : Nat := 2 ^ Nat.log2 (n - 1)
theorem halfN_lt {n : Nat} (h : 2 ≤ n) : halfN n < n := by
  unfold halfN
  have := Nat.log2_self_le (n := n - 1) (by omega)
  omega
theorem halfN_pos (n : Nat) : 0 < halfN n := Nat.two_pow_pos _
def leafB (b : List UInt8) : List UInt8 := sha (underB 1 [b])
def nodeB (a b : List UInt8) : List UInt8 := sha (underB 2 [a, b])
def noneB : List UInt8 := sha (underB 0 [])
end Go.Proofs.YtnnjjbkdjkjnpaaGreatDoor
/- A region that draws its order, walked once in the order of the text: what acts (calls, new rows) yields a value of a form given ahead (Sp) with a fact that lasts while memory grows; no order need be looked at. No program in sight. -/
namespace Go.Proofs.YtnnjjbkdjkjnpaaGreatDoor
open Go.RowKit
/-- The form of what an operation yields: 'val x', with a fact that lasts. -/
structure Sp where
  X : Type
  d : X
  val : X → Value
  ok : X → World → Prop
  st : ∀ x w w', ok x w → Grow w w' → ok x w'
/-- A value known ahead. -/
def spV (v : Value) : Sp := ⟨Unit, (), fun _ => v, fun _ _ => True, fun _ _ _ _ _ => trivial⟩
def vwp (P : Program) (o : Oper) (a : Act) (w : World) (R : Value → World → Prop) : Prop :=
  match (execOp a.eval o).run P w with
  | .ok (.value v) w' => R v w'
  | .ok .skip w' => R undef w'
  | .ok (.enter f args) w' => Calls P f args w' fun e w'' => ∃ v, e = .returned v ∧ R v w''
  | .ok (.row row args) w' => Rows P row args w' R
  | _ => False
theorem vwp_same {P : Program} {o : Oper} {a a' : Act} {w : World} {R : Value → World → Prop} (he : execOp a'.eval o = execOp a.eval o) (hh : vwp P o a w R) : vwp P o a' w R := by
  unfold vwp at *; rw [he]; exact hh
theorem wp_of_vwp {P : Program} {o : Oper} {a : Act} {w : World} {R : Value → World → Prop} {K : Act → World → Prop} {Q : Exit → Act → World → Prop} (hh : vwp P o a w R) (h : ∀ v w', R v w' → K (a.put o.dst v) w') : o.wp P a w K Q := by
  unfold vwp at hh
  unfold Oper.wp
  generalize (execOp a.eval o).run P w = r at *
  cases r with
  | ok n w' =>
    cases n <;> simp only [Oper.upon] at hh ⊢
    case value => exact h _ _ hh
    case skip => exact h _ _ hh
    case enter f args =>
      refine Calls.mono hh fun e w'' he => ?_
      obtain ⟨v, rfl, hv⟩ := he
      exact h _ _ hv
    case row => exact Rows.mono hh fun _ _ he => h _ _ he
  | halt x w' => simp at hh
/-- Does i wait for k? (am: the masks of those that are waited for) -/
def fAnc (am : List Nat) (i k : Nat) : Bool := decide (k < i) && (am.getD i 0).testBit k
section
variable (P : Program) (md : Region.Mode) (ops : Array Oper) (am cl : List Nat) (sp : Nat → Sp) (w0 : World) (Q : Exit → Act → World → Prop)
def flA (am : List Nat) (L : List (Nat × (World → Prop))) (i : Nat) (w : World) : Prop := ∀ p ∈ L, fAnc am i p.1 = true → p.2 w
def wpL : List Nat → Act → List (Nat × (World → Prop)) → Prop
  | [], a, L => ∀ w, Grow w0 w → (∀ p ∈ L, p.2 w) → Q .normal a w
  | i :: us, a, L => match ops[i]? with
    | none => False
    | some o => if Region.wanted o (yielded ops a.tmps) then
        (if plCls cl i ≤ 2 then ∃ v, (∀ w, Grow w0 w → flA am L i w → (execOp a.eval o).run P w = .ok (.value v) w) ∧ wpL us (a.put o.dst v) L
        else (∀ w, Grow w0 w → flA am L i w → vwp P o a w fun v w' => Grow w w' ∧ ∃ x, v = (sp i).val x ∧ (sp i).ok x w') ∧ ∀ x, wpL us (a.put o.dst ((sp i).val x)) (L ++ [(i, (sp i).ok x)]))
      else wpL us (a.put o.dst undef) L
/-- The kernel's look. -/
def flowB : Bool := Region.noSelect ops && (List.range ops.size).all fun i => match ops[i]? with
  | none => false
  | some o => (o.after.all fun e => !Region.binds md e || decide (e.on < i)) && (List.range i).all fun k => if fAnc am i k then (o.after.any fun e => Region.binds md e && (e.on == k || fAnc am e.on k)) else (match ops[k]? with | none => false | some ok => o.apart ops ok)
end
section
variable {P : Program} {md : Region.Mode} {ops : Array Oper} {am cl : List Nat} {sp : Nat → Sp} {w0 : World} {Q : Exit → Act → World → Prop}
theorem flA_mono {L L' : List (Nat × (World → Prop))} (h : ∀ p ∈ L, p ∈ L') {i : Nat} {w : World} (hh : flA am L' i w) : flA am L i w := fun p hp => hh p (h p hp)
theorem wpL_mono : ∀ (us : List Nat) (a : Act) (L L' : List (Nat × (World → Prop))), (∀ p ∈ L, p ∈ L') → wpL P ops am cl sp w0 Q us a L → wpL P ops am cl sp w0 Q us a L'
  | [], a, L, L', h, hh => fun w hg hf => hh w hg fun p hp => hf p (h p hp)
  | i :: us, a, L, L', h, hh => by
    unfold wpL at hh ⊢
    cases ho : ops[i]? with
    | none => rw [ho] at hh; exact hh.elim
    | some o =>
      rw [ho] at hh
      simp only at hh ⊢
      split
      · rename_i hw
        rw [if_pos hw] at hh
        split
        · rename_i hc
          rw [if_pos hc] at hh
          obtain ⟨v, h1, h2⟩ := hh
          exact ⟨v, fun w hg hf => h1 w hg (flA_mono h hf), wpL_mono us _ L L' h h2⟩
        · rename_i hc
          rw [if_neg hc] at hh
          refine ⟨fun w hg hf => hh.1 w hg (flA_mono h hf), fun x => wpL_mono us _ _ _ (fun p hp => ?_) (hh.2 x)⟩
          rcases List.mem_append.1 hp with hp | hp
          · exact List.mem_append.2 (.inl (h p hp))
          · exact List.mem_append.2 (.inr hp)
      · rename_i hw
        rw [if_neg hw] at hh
        exact wpL_mono us _ L L' h hh
/-- What the operation i does now. -/
def flDo (P : Program) (ops : Array Oper) (cl : List Nat) (sp : Nat → Sp) (i : Nat) (a : Act) (w : World) : Prop :=
  match ops[i]? with
  | none => False
  | some o => Region.wanted o (yielded ops a.tmps) = true → if plCls cl i ≤ 2 then ∃ v, (execOp a.eval o).run P w = .ok (.value v) w else vwp P o a w fun v w' => Grow w w' ∧ ∃ x, v = (sp i).val x ∧ (sp i).ok x w'
/-- What it adds to the walk. -/
def flRes (P : Program) (ops : Array Oper) (cl : List Nat) (sp : Nat → Sp) (i : Nat) (o : Oper) (a : Act) (w : World) (v : Value) (Lx : List (Nat × (World → Prop))) : Prop :=
  if Region.wanted o (yielded ops a.tmps) then (if plCls cl i ≤ 2 then (execOp a.eval o).run P w = .ok (.value v) w ∧ Lx = [] else ∃ x, v = (sp i).val x ∧ Lx = [(i, (sp i).ok x)]) else v = undef ∧ Lx = []
theorem keep_put {oi ok : Oper} (hsel : ∀ cs b, oi.op ≠ .select cs b) (h3 : ∀ d, ok.dst = some d → d ∉ oi.looksAt ops) (a : Act) (u : Value) :
    execOp (a.put ok.dst u).eval oi = execOp a.eval oi ∧ Region.wanted oi (yielded ops (a.put ok.dst u).tmps) = Region.wanted oi (yielded ops a.tmps) := ⟨execOp_put oi hsel a ok.dst u h3, wanted_put oi a ok.dst u h3⟩
theorem fl_do {i : Nat} {oi : Oper} (hi : ops[i]? = some oi) (hsel : ∀ (j : Nat) (o : Oper) cs b, ops[j]? = some o → o.op ≠ .select cs b) {post : List Nat} {w : World} (hg : Grow w0 w) :
    ∀ (pre : List Nat) (a : Act) (L : List (Nat × (World → Prop))), (∀ k ∈ pre, fAnc am i k = false ∧ ∃ ok, ops[k]? = some ok ∧ oi.apart ops ok = true) → flA am L i w → wpL P ops am cl sp w0 Q (pre ++ i :: post) a L → flDo P ops cl sp i a w
  | [], a, L, hp, hf, hh => by
    unfold flDo
    simp only [List.nil_append] at hh
    unfold wpL at hh
    rw [hi] at hh ⊢
    simp only at hh ⊢
    intro hw
    rw [if_pos hw] at hh
    split
    · rename_i hc
      rw [if_pos hc] at hh
      obtain ⟨v, h1, _⟩ := hh
      exact ⟨v, h1 w hg hf⟩
    · rename_i hc
      rw [if_neg hc] at hh
      exact hh.1 w hg hf
  | k :: pre, a, L, hp, hf, hh => by
    obtain ⟨hna, ok, hok, hap⟩ := hp k (by simp)
    obtain ⟨_, _, h3⟩ := Oper.apart_spec hap
    have back : ∀ v, flDo P ops cl sp i (a.put ok.dst v) w → flDo P ops cl sp i a w := by
      intro v h
      obtain ⟨e1, e2⟩ := keep_put (ok := ok) (fun cs b => hsel i oi cs b hi) h3 a v
      unfold flDo at h ⊢
      rw [hi] at h ⊢
      simp only at h ⊢
      intro hw
      have h := h (by rw [e2]; exact hw)
      split
      · rename_i hc; rw [if_pos hc] at h; rw [← e1]; exact h
      · rename_i hc; rw [if_neg hc] at h; exact vwp_same e1.symm h
    have ih : ∀ a L, flA am L i w → wpL P ops am cl sp w0 Q (pre ++ i :: post) a L → flDo P ops cl sp i a w := fun a L hf hh => fl_do hi hsel hg pre a L (fun k hk => hp k (by simp [hk])) hf hh
    rw [List.cons_append] at hh
    unfold wpL at hh
    rw [hok] at hh
    simp only at hh
    split at hh
    · split at hh
      · obtain ⟨v, _, h2⟩ := hh
        exact back v (ih _ _ hf h2)
      · refine back _ (ih _ _ ?_ (hh.2 (sp k).d))
        intro p hp hc
        rcases List.mem_append.1 hp with hp | hp
        · exact hf p hp hc
        · simp only [List.mem_singleton] at hp
          subst hp
          rw [hna] at hc; cases hc
    · exact back _ (ih _ _ hf hh)
theorem fl_next {i : Nat} {oi : Oper} (hi : ops[i]? = some oi) (hsel : ∀ (j : Nat) (o : Oper) cs b, ops[j]? = some o → o.op ≠ .select cs b) {post : List Nat} {w : World} (hg : Grow w0 w) {v : Value} {Lx : List (Nat × (World → Prop))} :
    ∀ (pre : List Nat) (a : Act) (L : List (Nat × (World → Prop))), (∀ k ∈ pre, fAnc am i k = false ∧ ∃ ok, ops[k]? = some ok ∧ oi.apart ops ok = true) → flA am L i w → flRes P ops cl sp i oi a w v Lx → wpL P ops am cl sp w0 Q (pre ++ i :: post) a L →
      wpL P ops am cl sp w0 Q (pre ++ post) (a.put oi.dst v) (L ++ Lx)
  | [], a, L, hp, hf, hr, hh => by
    simp only [List.nil_append] at hh ⊢
    unfold wpL at hh
    rw [hi] at hh
    unfold flRes at hr
    simp only at hh
    split at hh
    · rename_i hw
      rw [if_pos hw] at hr
      split at hh
      · rename_i hc
        rw [if_pos hc] at hr
        obtain ⟨v', h1, h2⟩ := hh
        obtain ⟨r1, rfl⟩ := hr
        rw [h1 w hg hf] at r1
        cases r1
        simpa using h2
      · rename_i hc
        rw [if_neg hc] at hr
        obtain ⟨x, rfl, rfl⟩ := hr
        exact hh.2 x
    · rename_i hw
      rw [if_neg hw] at hr
      obtain ⟨rfl, rfl⟩ := hr
      simpa using hh
  | k :: pre, a, L, hp, hf, hr, hh => by
    obtain ⟨hna, ok, hok, hap⟩ := hp k (by simp)
    obtain ⟨h1, h2, h3⟩ := Oper.apart_spec hap
    obtain ⟨f1, f2⟩ := keep_put (oi := ok) (ok := oi) (ops := ops) (fun cs b => hsel k ok cs b hok) h1 a v
    have ih : ∀ a L, flA am L i w → flRes P ops cl sp i oi a w v Lx → wpL P ops am cl sp w0 Q (pre ++ i :: post) a L → wpL P ops am cl sp w0 Q (pre ++ post) (a.put oi.dst v) (L ++ Lx) := fun a L hf hr hh => fl_next hi hsel hg pre a L (fun k hk => hp k (by simp [hk])) hf hr hh
    have res : ∀ u, flRes P ops cl sp i oi (a.put ok.dst u) w v Lx := by
      intro u
      obtain ⟨e1, e2⟩ := keep_put (ok := ok) (fun cs b => hsel i oi cs b hi) h3 a u
      unfold flRes at hr ⊢
      rw [e1, e2]; exact hr
    rw [List.cons_append] at hh ⊢
    unfold wpL at hh ⊢
    rw [hok] at hh ⊢
    simp only at hh ⊢
    rw [f2]
    split
    · rename_i hw
      rw [if_pos hw] at hh
      split
      · rename_i hc
        rw [if_pos hc] at hh
        obtain ⟨u, k1, k2⟩ := hh
        refine ⟨u, fun w hg hf => ?_, ?_⟩
        · rw [f1]; exact k1 w hg (flA_mono (fun p hp => List.mem_append.2 (.inl hp)) hf)
        · rw [Act.put_comm a v u h2]; exact ih _ _ hf (res u) k2
      · rename_i hc
        rw [if_neg hc] at hh
        refine ⟨fun w hg hf => vwp_same f1 (hh.1 w hg (flA_mono (fun p hp => List.mem_append.2 (.inl hp)) hf)), fun x => ?_⟩
        rw [Act.put_comm a v _ h2]
        refine wpL_mono _ _ _ _ (fun p hp => ?_) (ih _ _ ?_ (res _) (hh.2 x))
        · simp only [List.mem_append, List.mem_singleton] at hp ⊢
          rcases hp with (hp | hp) | hp
          · exact .inl (.inl hp)
          · exact .inr hp
          · exact .inl (.inr hp)
        · intro p hp hc
          rcases List.mem_append.1 hp with hp | hp
          · exact hf p hp hc
          · simp only [List.mem_singleton] at hp
            subst hp
            rw [hna] at hc; cases hc
    · rename_i hw
      rw [if_neg hw] at hh
      rw [Act.put_comm a v _ h2]
      exact ih _ _ hf (res _) hh
def unl (ops : Array Oper) (listed : Array Bool) : List Nat := (List.range ops.size).filter fun i => !listed.getD i true
theorem unl_split {listed : Array Bool} {i : Nat} (hi : i ∈ unl ops listed) : ∃ pre post, unl ops listed = pre ++ i :: post ∧ (∀ k ∈ pre, k < i ∧ listed.getD k true = false) ∧ unl ops (listed.setIfInBounds i true) = pre ++ post := by
  obtain ⟨pre, post, e⟩ := List.append_of_mem hi
  have hs : (unl ops listed).Pairwise (· < ·) := List.Pairwise.filter _ List.pairwise_lt_range
  have hmem : ∀ k, k ∈ unl ops listed → listed.getD k true = false := fun k hk => by have := (List.mem_filter.1 hk).2; simpa using this
  rw [e] at hs
  have hlt : ∀ k ∈ pre, k < i := fun k hk => (List.pairwise_append.1 hs).2.2 k hk i (by simp)
  have hgt : ∀ k ∈ post, i < k := fun k hk => (List.pairwise_cons.1 (List.pairwise_append.1 hs).2.1).1 k hk
  refine ⟨pre, post, e, fun k hk => ⟨hlt k hk, hmem k (by rw [e]; simp [hk])⟩, ?_⟩
  have h1 : unl ops (listed.setIfInBounds i true) = (unl ops listed).filter fun k => k != i := by
    unfold unl
    rw [List.filter_filter]
    refine List.filter_congr fun k hk => ?_
    by_cases hki : i = k
    · subst hki
      have hl : listed.getD i true = false := hmem i hi
      have := getD_set_true (i := i) (j := i) (listed := listed)
      have hh : (listed.setIfInBounds i true).getD i true = true := by
        rcases Nat.lt_or_ge i listed.size with h | h
        · simp [Array.getD_eq_getD_getElem?, h]
        · simp [Array.getD_eq_getD_getElem?, Array.getElem?_eq_none h] at hl
      rw [hh]; simp
    · rw [getD_ne true hki]
      have : (k != i) = true := by simpa using fun e => hki e.symm
      rw [this]; simp
  rw [h1, e, List.filter_append, List.filter_cons]
  have a1 : pre.filter (fun k => k != i) = pre := List.filter_eq_self.2 fun k hk => by have := hlt k hk; simp; omega
  have a2 : post.filter (fun k => k != i) = post := List.filter_eq_self.2 fun k hk => by have := hgt k hk; simp; omega
  rw [a1, a2]; simp
theorem fanc_listed (hB : ∀ i ∈ List.range ops.size, (match ops[i]? with
    | none => false
    | some o => (o.after.all fun e => !Region.binds md e || decide (e.on < i)) && (List.range i).all fun k => if fAnc am i k then (o.after.any fun e => Region.binds md e && (e.on == k || fAnc am e.on k)) else (match ops[k]? with | none => false | some ok => o.apart ops ok)) = true)
    {listed : Array Bool} (hcl : PClosed md ops listed) : ∀ (i : Nat) (o : Oper), ops[i]? = some o → (∀ e ∈ o.after, Region.binds md e = true → listed.getD e.on false = true) → ∀ k, fAnc am i k = true → listed.getD k false = true := by
  intro i
  induction i using Nat.strongRecOn with
  | ind i ih =>
    intro o ho hall k hk
    have hlt : i < ops.size := (Array.getElem?_eq_some_iff.1 ho).1
    have h := hB i (List.mem_range.2 hlt)
    rw [ho] at h
    simp only [Bool.and_eq_true] at h
    have hki : k < i := by unfold fAnc at hk; simp only [Bool.and_eq_true, decide_eq_true_eq] at hk; exact hk.1
    have h2 := List.all_eq_true.1 h.2 k (List.mem_range.2 hki)
    rw [hk] at h2
    simp only [if_true] at h2
    obtain ⟨e, he, h3⟩ := Array.any_eq_true'.1 h2
    simp only [Bool.and_eq_true, Bool.or_eq_true, beq_iff_eq] at h3
    obtain ⟨hb, h3⟩ := h3
    have hl := hall e he hb
    rcases h3 with h3 | h3
    · rw [← h3]; exact hl
    · have h4 := Array.all_eq_true_iff_forall_mem.1 h.1 e he
      rw [hb] at h4
      have h5 : e.on < i := by simpa using h4
      have h6 : e.on < ops.size := by omega
      exact ih e.on h5 ops[e.on] (by simp [h6]) (fun e' he' hb' => hcl e.on ops[e.on] (by simp [h6]) hl e' he' hb') k h3
theorem wpAny_of_L (hB : flowB md ops am = true) : ∀ (f : Nat) (listed : Array Bool) (a : Act) (w : World) (L : List (Nat × (World → Prop))), (unl ops listed).length = f → PClosed md ops listed → Grow w0 w → (∀ p ∈ L, p.2 w ∧ ∀ w1 w2, p.2 w1 → Grow w1 w2 → p.2 w2) →
    wpL P ops am cl sp w0 Q (unl ops listed) a L → wpAny P md ops Q f listed a w := by
  simp only [flowB, Bool.and_eq_true, List.all_eq_true] at hB
  obtain ⟨hns, hB⟩ := hB
  have hsel := Region.noSelect_spec hns
  intro f
  induction f with
  | zero =>
    intro listed a w L hl hcl hg hf hh
    have hu : unl ops listed = [] := List.eq_nil_of_length_eq_zero hl
    rw [hu] at hh
    refine ⟨List.eq_nil_iff_forall_not_mem.2 fun i hi => ?_, hh w hg fun p hp => (hf p hp).1⟩
    obtain ⟨h1, o, h2, _⟩ := mem_ready.1 hi
    have : i ∈ unl ops listed := List.mem_filter.2 ⟨List.mem_range.2 (Array.getElem?_eq_some_iff.1 h2).1, by simp [h1]⟩
    rw [hu] at this; cases this
  | succ f ih =>
    intro listed a w L hl hcl hg hf hh
    refine ⟨fun hr => ?_, fun i hi => ?_⟩
    · -- the first unlisted is ready
      obtain ⟨i, us, hu⟩ : ∃ i us, unl ops listed = i :: us := by
        cases e : unl ops listed with
        | nil => rw [e] at hl; cases hl
        | cons i us => exact ⟨i, us, rfl⟩
      have him : i ∈ unl ops listed := by rw [hu]; simp
      have hs : (unl ops listed).Pairwise (· < ·) := List.Pairwise.filter _ List.pairwise_lt_range
      obtain ⟨him1, him2⟩ := List.mem_filter.1 him
      have hlt : i < ops.size := List.mem_range.1 him1
      have hrd : i ∈ Region.ready md ops listed := by
        refine mem_ready.2 ⟨by simpa using him2, ops[i], by simp [hlt], fun e he hb => ?_⟩
        have h1 := hB i (List.mem_range.2 hlt)
        rw [show ops[i]? = some ops[i] by simp [hlt]] at h1
        simp only [Bool.and_eq_true] at h1
        have h2 := Array.all_eq_true_iff_forall_mem.1 h1.1 e he
        rw [hb] at h2
        have h3 : e.on < i := by simpa using h2
        cases hv : listed.getD e.on true with
        | true =>
          rcases Nat.lt_or_ge e.on listed.size with h | h
          · simp [Array.getD_eq_getD_getElem?, h] at hv ⊢; exact hv
          · have : listed.getD i true = true := by simp [Array.getD_eq_getD_getElem?, Array.getElem?_eq_none (show listed.size ≤ i by omega)]
            rw [this] at him2; simp at him2
        | false =>
          have hm : e.on ∈ unl ops listed := List.mem_filter.2 ⟨List.mem_range.2 (by omega), by simp [hv]⟩
          rw [hu] at hm hs
          rcases List.mem_cons.1 hm with e1 | e1
          · omega
          · have := (List.pairwise_cons.1 hs).1 _ e1; omega
      rw [hr] at hrd; cases hrd
    · obtain ⟨hun, o, ho, hall⟩ := mem_ready.1 hi
      have hlt : i < ops.size := (Array.getElem?_eq_some_iff.1 ho).1
      obtain ⟨pre, post, e, hpre, hnext⟩ := unl_split (ops := ops) (listed := listed) (i := i) (List.mem_filter.2 ⟨List.mem_range.2 hlt, by simp [hun]⟩)
      have hap : ∀ k ∈ pre, fAnc am i k = false ∧ ∃ ok, ops[k]? = some ok ∧ o.apart ops ok = true := by
        intro k hk
        obtain ⟨h1, h2⟩ := hpre k hk
        have hno : fAnc am i k = false := by
          cases hc : fAnc am i k with
          | false => rfl
          | true => have := fanc_listed hB hcl i o ho hall k hc; rw [getD_tf h2] at this; cases this
        refine ⟨hno, ?_⟩
        have h3 := hB i (List.mem_range.2 hlt)
        rw [ho] at h3
        simp only [Bool.and_eq_true] at h3
        have h4 := List.all_eq_true.1 h3.2 k (List.mem_range.2 h1)
        rw [hno] at h4
        simp only [Bool.false_eq_true, if_false] at h4
        cases hk : ops[k]? with
        | none => rw [hk] at h4; cases h4
        | some ok => rw [hk] at h4; exact ⟨ok, rfl, h4⟩
      have hfa : flA am L i w := fun p hp _ => (hf p hp).1
      rw [e] at hh
      have hdo := fl_do ho hsel hg pre a L hap hfa hh
      have hlen : (unl ops (listed.setIfInBounds i true)).length = f := by
        rw [hnext]; rw [e] at hl; simp at hl ⊢; omega
      have go : ∀ (v : Value) (Lx : List (Nat × (World → Prop))) (w' : World), flRes P ops cl sp i o a w v Lx → Grow w w' → (∀ p ∈ Lx, p.2 w' ∧ ∀ w1 w2, p.2 w1 → Grow w1 w2 → p.2 w2) → wpAny P md ops Q f (listed.setIfInBounds i true) (a.put o.dst v) w' := by
        intro v Lx w' hr hgw hfx
        refine ih _ _ _ (L ++ Lx) hlen (closed_set hcl hi) (Grow.trans _ _ _ hg hgw) (fun p hp => ?_) ?_
        · rcases List.mem_append.1 hp with hp | hp
          · exact ⟨(hf p hp).2 _ _ (hf p hp).1 hgw, (hf p hp).2⟩
          · exact hfx p hp
        · rw [hnext]; exact fl_next ho hsel hg pre a L hap hfa hr hh
      unfold wpOp
      rw [ho]
      simp only
      unfold flDo at hdo
      rw [ho] at hdo
      simp only at hdo
      split
      · rename_i hw
        left
        have hdo := hdo hw
        split at hdo
        · rename_i hc
          obtain ⟨v, hv⟩ := hdo
          unfold Oper.wp
          rw [hv]
          exact go v [] w (by unfold flRes; rw [if_pos hw, if_pos hc]; exact ⟨hv, rfl⟩) (Grow.refl w) (fun p hp => by cases hp)
        · rename_i hc
          refine wp_of_vwp hdo fun v w' hv => ?_
          obtain ⟨hgw, x, rfl, hx⟩ := hv
          refine go _ [(i, (sp i).ok x)] w' (by unfold flRes; rw [if_pos hw, if_neg hc]; exact ⟨x, rfl, rfl⟩) hgw (fun p hp => ?_)
          simp only [List.mem_singleton] at hp
          subst hp
          exact ⟨hx, fun w1 w2 h k => (sp i).st x w1 w2 h k⟩
      · rename_i hw
        exact go undef [] w (by unfold flRes; rw [if_neg hw]; exact ⟨rfl, rfl⟩) (Grow.refl w) (fun p hp => by cases hp)
theorem all_un (n : Nat) : ∀ i ∈ List.range n, (!(Array.replicate n false).getD i true) = true := by
  intro i hi
  have : i < n := List.mem_range.1 hi
  simp [Array.getD_eq_getD_getElem?, this]
/-- The law. -/
theorem wp_flow {id : Nat} {a : Act} {w : World} {l : List Oper} (am cl : List Nat) (sp : Nat → Sp) (hm : P.follows .mixedOrders = true) (hB : flowB .any l.toArray am = true)
    (h : ∀ w2, Drawn w w2 → wpL P l.toArray am cl sp w2 Q (List.range l.length) a []) : (Code.region id l.toArray true).wp P Q a w := by
  replace h := h w.drew (Drawn.one w)
  refine wp_region_any hm (wpAny_of_L (am := am) (w0 := w.drew) (cl := cl) (sp := sp) hB _ _ _ _ [] ?_ ?_ (Grow.refl _) (fun p hp => by cases hp) ?_)
  · unfold unl
    rw [List.filter_eq_self.2 (all_un l.toArray.size)]
    simp
  · intro j oj _ hj
    rw [Array.getD_eq_getD_getElem?, Array.getElem?_replicate] at hj
    split at hj <;> simp at hj
  · unfold unl
    rw [List.filter_eq_self.2 (all_un l.toArray.size)]
    simpa using h
/-! ### Steps -/
variable {o : Oper} {i : Nat} {us : List Nat} {a : Act} {L : List (Nat × (World → Prop))}
theorem fl_done (h : ∀ w, Grow w0 w → (∀ p ∈ L, p.2 w) → Q .normal a w) : wpL P ops am cl sp w0 Q [] a L := h
theorem fl_calm {v : Value} (hi : ops[i]? = some o) (hc : plCls cl i ≤ 2) (hw : Region.wanted o (yielded ops a.tmps) = true) (h : ∀ w, Grow w0 w → flA am L i w → (execOp a.eval o).run P w = .ok (.value v) w)
    (hk : ∀ K : Act → Prop, (∀ a, wpL P ops am cl sp w0 Q us a L → K a) → K (a.put o.dst v)) : wpL P ops am cl sp w0 Q (i :: us) a L := by
  unfold wpL; rw [hi]; simp only; rw [if_pos hw, if_pos hc]; exact ⟨v, h, hk _ fun _ h => h⟩
theorem fl_skip (hi : ops[i]? = some o) (hw : Region.wanted o (yielded ops a.tmps) = false)
    (hk : ∀ K : Act → Prop, (∀ a, wpL P ops am cl sp w0 Q us a L → K a) → K (a.put o.dst undef)) : wpL P ops am cl sp w0 Q (i :: us) a L := by
  unfold wpL; rw [hi]; simp only; rw [if_neg (by rw [hw]; simp)]; exact hk _ fun _ h => h
/-! ### Values known ahead; slices -/
/-- A cell read; a whole block read. -/
theorem fl_load {T : TypeId} {x : Operand} {p : Addr} {v : Value} (hi : ops[i]? = some o) (hc : plCls cl i ≤ 2) (hw : Region.wanted o (yielded ops a.tmps) = true) (ho : o.op = .load T x) (hx : a.eval x = .pointer (some p))
    (hT : (match P.underlying T with | some (.struct _) | some (.array _ _) => false | some _ => true | none => false) = true) (hv : w0.cell? p = some v)
    (hk : ∀ K : Act → Prop, (∀ a, wpL P ops am cl sp w0 Q us a L → K a) → K (a.put o.dst v)) : wpL P ops am cl sp w0 Q (i :: us) a L := by
  refine fl_calm hi hc hw (fun w' hf _ => ?_) hk
  have hv' : w'.cell? p = some v := by
    have := World.block_lt_of_cell? w0 p hv
    rw [hf.cell this]; exact hv
  unfold execOp
  simp only [ho, hx, Instr.loadAt, Instr.sureAddr, Sem.run_bind, Sem.run_pure, Result.andThen_ok]
  cases hd : P.underlying T with
  | none => rw [hd] at hT; cases hT
  | some d =>
    rw [hd] at hT
    have hagg : (isAgg T).run P w' = .ok false w' := by
      unfold isAgg
      rw [Sem.run_bind, run_underlying hd w']
      cases d <;> simp_all
    simp [loadVar, hagg, load, Sem.run, hv']
theorem fl_loadm {T : TypeId} {x : Operand} {n b off : Nat} {cs : List Value} (hi : ops[i]? = some o) (hc : plCls cl i ≤ 2) (hw : Region.wanted o (yielded ops a.tmps) = true) (ho : o.op = .load T x) (hT : RowT P T n)
    (hv : ∀ j u, cs[j]? = some u → w0.cell? ⟨b, off + j, none⟩ = some u) (hx : a.eval x = .pointer (some ⟨b, off, none⟩)) (hn : cs.length = n)
    (hk : ∀ K : Act → Prop, (∀ a, wpL P ops am cl sp w0 Q us a L → K a) → K (a.put o.dst (.agg cs.toArray))) : wpL P ops am cl sp w0 Q (i :: us) a L := by
  refine fl_calm hi hc hw (fun w' hf _ => ?_) hk
  obtain ⟨d, hu, hd, hi⟩ := hT
  have hrun := run_loadVar_mid (P := P) w' b off T cs d (fun j u hj => by
    have h1 := hv j u hj
    rw [hf.cell (World.block_lt_of_cell? w0 _ h1)]; exact h1) hu (by cases d <;> simp_all) (by rw [hi, hn])
  unfold execOp
  simp only [ho, hx, Instr.loadAt, Instr.sureAddr, Sem.run_bind, Sem.run_pure, Result.andThen_ok, hrun]
end
attribute [irreducible] wpL
end Go.Proofs.YtnnjjbkdjkjnpaaGreatDoor
/- What acts in a drawn region may yield: lists of bytes; lists of these. -/
namespace Go.Proofs.YtnnjjbkdjkjnpaaGreatDoor
open Go.RowKit Go.Shelf
theorem parts1 {w : World} {g : Nat} {t : TypeId} {A1 : Option Addr} {n1 c1 : Nat} {b1 : List UInt8} (hb : Blk w g t [.slice A1 n1 c1]) (h1 : Sl w w.heap.size 1 A1 n1 (b1.map B)) (k1 : n1 ≤ c1) :
    ∃ ps, Parts w w.heap.size (some ⟨g, 0, none⟩) 1 ps ∧ ps.map Prod.snd = [b1] :=
  ⟨[(.slice A1 n1 c1, b1)], parts_blk hb rfl (by intro p hp; simp only [List.mem_cons, List.not_mem_nil, or_false] at hp; subst hp; exact part_mk h1 k1), rfl⟩
end Go.Proofs.YtnnjjbkdjkjnpaaGreatDoor
/- Under a mark, over a list of lists that is known by its bytes; facts ready for the laws. -/
namespace Go.Proofs.YtnnjjbkdjkjnpaaGreatDoor
open Go.RowKit Go.Shelf
theorem punder_any {m : UInt8} {A : Option Addr} {n c : Nat} {ls : List (List UInt8)} {xs : List Value} (hx : Dig xs (sha (underB m ls))) {w : World} (hp : ∃ ps, Parts w w.heap.size A n ps ∧ ps.map Prod.snd = ls) (hn : n ≤ 400000) (hl : ∀ l ∈ ls, l.length ≤ 1000000) (ht : Tabs w) :
    Calls Tryz.prog 76 #[.int .u8 (b8 m), .slice A n c] w fun e w' => e = .returned (.agg xs.toArray) ∧ Below w.heap.size w w' := by
  obtain ⟨ps, h1, rfl⟩ := hp
  exact under_any m A n c ps hx w h1 hn (fun p hp => hl _ (List.mem_map_of_mem hp)) ht
end Go.Proofs.YtnnjjbkdjkjnpaaGreatDoor

/- Contract of sha.Under. -/
import Derived.Test.YtnnjjbkdjkjnpaaGreatDoorSpendBackRd6
import Derived.Lib.Strings
import Derived.Lib.BitFns
set_option linter.unusedSimpArgs false
set_option linter.unusedVariables false
set_option maxRecDepth 100000
set_option maxHeartbeats 16000000
namespace Go.Proofs.YtnnjjbkdjkjnpaaGreatDoor
open Go.RowKit Go.Shelf
def longB (bs : List UInt8) : List UInt8 := beBytes bs.length 4 ++ bs
def underB (m : UInt8) (ls : List (List UInt8)) : List UInt8 := m :: ls.flatMap longB
theorem underB_snoc (m : UInt8) (ls : List (List UInt8)) (x : List UInt8) : underB m (ls ++ [x]) = underB m ls ++ (beBytes x.length 4 ++ x) := by
 unfold underB; rw [List.flatMap_append]; simp [longB]
theorem beBytes_len (v n : Nat) : (beBytes v n).length = n := by unfold beBytes; simp
theorem underB_le (m : UInt8) (ls : List (List UInt8)) (N : Nat) (h : ∀ l ∈ ls, l.length ≤ N) : (underB m ls).length ≤ 1 + ls.length * (4 + N) := by
 unfold underB
 induction ls with
 | nil => simp
 | cons x xs ih =>
  have h1 := h x (by simp)
  have h2 := ih fun l hl => h l (by simp [hl])
  simp only [List.flatMap_cons, List.length_cons, List.length_append, longB, beBytes_len, Nat.succ_mul] at *
  omega
theorem info_su8 : (Tryz.prog.info? 70).map (fun i => (i.zero, i.size, i.bytes)) = some (some (.slice none 0 0), 1, 24) := by kernel_rfl
theorem el_su8 : ElemT Tryz.prog 168 70 1 24 := elemT Tryz.underlying168 info_su8 rfl (by omega)
def PartIn (w : World) (row : Option Nat) (p : Value × List UInt8) : Prop := ∃ A c, p.1 = .slice A p.2.length c ∧ p.2.length ≤ c ∧ Sl w w.heap.size 1 A p.2.length (p.2.map B) ∧ (0 < p.2.length → A.map Addr.block ≠ row)
theorem PartIn.grow {w w2 : World} {row : Option Nat} {p : Value × List UInt8} (h : PartIn w row p) (k : Grow w w2) : PartIn w2 row p := by
 obtain ⟨A, c, h1, h2, h3, h4⟩ := h
 exact ⟨A, c, h1, h2, h3.grow k, h4⟩
theorem PartIn.step {w w2 : World} {row row' : Option Nat} {p : Value × List UInt8} (h : PartIn w row p) (hg : w.grownBy w2 row) (hA : row' = row ∨ ∃ j, row' = some (w.heap.size + j)) : PartIn w2 row' p := by
 obtain ⟨A, c, h1, h2, h3, h4⟩ := h
 refine ⟨A, c, h1, h2, ⟨h3.1, fun hn => ?_⟩, fun hn => ?_⟩
 ·obtain ⟨b, off, e, hb, hc⟩ := h3.2 hn
  refine ⟨b, off, e, Nat.lt_of_lt_of_le hb hg.size, fun j u hu => hg.cell (hc j u hu) ?_⟩
  have := h4 hn
  rw [e] at this
  exact this
 ·obtain ⟨b, off, e, hb, hc⟩ := h3.2 hn
  rcases hA with hA | ⟨j, hA⟩
  ·rw [hA]; exact h4 hn
  ·rw [hA, e]
   intro hh
   simp only [Option.map_some, Option.some.injEq] at hh
   omega
theorem PartIn.ok {w : World} {row : Option Nat} {p : Value × List UInt8} (h : PartIn w row p) : PartOK w w.heap.size p := by
 obtain ⟨A, c, h1, h2, h3, h4⟩ := h
 exact ⟨A, c, h1, h2, h3⟩
theorem PartIn.of {w : World} {row : Option Nat} {Bd : Nat} {p : Value × List UInt8} (h : PartOK w Bd p) (hB : Bd ≤ w.heap.size) (hr : ∀ g, row = some g → Bd ≤ g) : PartIn w row p := by
 obtain ⟨A, c, h1, h2, h3⟩ := h
 refine ⟨A, c, h1, h2, h3.more hB, fun hn hh => ?_⟩
 obtain ⟨b, off, e, hb, _⟩ := h3.2 hn
 rw [e] at hh
 have := hr b hh.symm
 omega
theorem PartIn.own {w : World} {row : Option Nat} {base n c : Nat} {A : Option Addr} {bs : List UInt8} (h : w.ownsRow base 5 1 (.slice A n c) n (bs.map B)) (hc : n ≤ c) (hr : ∀ g, row = some g → g < base) : PartIn w row (.slice A n c, bs) := by
 have e : bs.length = n := by have := h.1; simpa using this
 refine ⟨A, c, by rw [e], by rw [e]; exact hc, by rw [e]; exact Sl.of_own h, fun _ hh => ?_⟩
 have := own_from h
 rcases A with _ | a
 ·simp only [Option.map_none] at hh
  have h0 := (Sl.of_own h).2
  rename_i hpos
  obtain ⟨b, off, e2, _⟩ := h0 (by simp only at hpos; omega)
  cases e2
 ·have h1 := this a.block rfl
  have h2 := hr a.block hh.symm
  omega
def UInv (w wr : World) (A : Option Addr) (c k : Nat) (qs ps : List (Value × List UInt8)) (m : UInt8) : Prop :=
 wr.ownsRow (w.heap.size + 1) 70 1 (.slice A (2 * k + 1) c) (2 * k + 1) (qs.map Prod.fst) ∧ (∀ q ∈ qs, PartIn wr (A.map Addr.block) q) ∧ cat qs = underB m ((ps.take k).map Prod.snd) ∧ Below w.heap.size w wr ∧ At wr w.heap.size 46 32 (List.replicate 32 (B 0))
theorem u_step {w wr w2 w4 : World} {A A4 : Option Addr} {c c4 k g4 : Nat} {qs ps : List (Value × List UInt8)} {m : UInt8} {p : Value × List UInt8} (h : UInv w wr A c k qs ps m) (hp : PartOK wr w.heap.size p) (hk : ps[k]? = some p)
  (hb2 : Below wr.heap.size wr w2) (ho4 : w2.ownsRow wr.heap.size 5 1 (.slice (some ⟨g4, 0, none⟩) 4 4) 4 ((beBytes p.2.length 4).map B))
  (ho : w4.ownsRow (w.heap.size + 1) 70 1 (.slice A4 (2 * k + 1 + 2) c4) (2 * k + 1 + 2) (qs.map Prod.fst ++ [.slice (some ⟨g4, 0, none⟩) 4 4, p.1]))
  (hg : w2.grownBy w4 (A.map Addr.block)) (hA : A4.map Addr.block = A.map Addr.block ∨ A4.map Addr.block = some (w2.heap.size + 1)) :
  UInv w w4 A4 c4 (k + 1) (qs ++ [(.slice (some ⟨g4, 0, none⟩) 4 4, beBytes p.2.length 4), p]) ps m := by
 obtain ⟨h1, h2, h3, h4, h5⟩ := h
 have hA' : A4.map Addr.block = A.map Addr.block ∨ ∃ j, A4.map Addr.block = some (w2.heap.size + j) := hA.imp_right fun e => ⟨1, e⟩
 have hfrom := own_from h1
 have hlt : ∀ g, A.map Addr.block = some g → g < wr.heap.size := fun g hg => (h1.lt g (by cases A <;> simp_all [Value.ownBlock])).2
 have e : 2 * (k + 1) + 1 = 2 * k + 1 + 2 := by omega
 refine ⟨?_, ?_, ?_, ?_, ?_⟩
 ·rw [e, List.map_append]; exact ho
 ·intro q hq
  simp only [List.mem_append, List.mem_cons, List.not_mem_nil, or_false] at hq
  rcases hq with hq | rfl | rfl
  ·exact ((h2 q hq).grow hb2).step hg hA'
  ·exact (PartIn.own ho4 (Nat.le_refl _) hlt).step hg hA'
  ·exact ((PartIn.of hp h4.size (fun g hg => by have := hfrom g hg; omega)).grow hb2).step hg hA'
 ·have e2 : cat (qs ++ [(.slice (some ⟨g4, 0, none⟩) 4 4, beBytes p.2.length 4), p]) = cat qs ++ (beBytes p.2.length 4 ++ p.2) := by unfold cat; simp
  rw [e2, h3, List.take_add_one, hk, Option.toList_some, List.map_append, List.map_cons, List.map_nil, underB_snoc]
 ·exact (h4.trans (hb2.mono h4.size)).grown hg (Nat.le_trans h4.size hb2.size) fun g hg => by have := hfrom g hg; omega
 ·refine ⟨(h5.1.grow hb2).grown hg fun hh => ?_, h5.2⟩
  have := hfrom _ hh.symm
  omega
theorem u_end {w wr : World} {A : Option Addr} {c n : Nat} {qs ps : List (Value × List UInt8)} {m : UInt8} (h : UInv w wr A c n qs ps m) (hn : ps.length = n) : Parts wr wr.heap.size A (2 * n + 1) qs ∧ cat qs = underB m (ps.map Prod.snd) := by
 obtain ⟨h1, h2, h3, _, _⟩ := h
 refine ⟨parts_mk (Sl.of_own h1) fun q hq => (h2 q hq).ok, ?_⟩
 rw [h3, List.take_of_length_le (by omega)]
theorem u_start {w w1 : World} {m : UInt8} {ps : List (Value × List UInt8)} (h : Below w.heap.size w w1) (hz : w.heap.size + 1 ≤ w1.heap.size) (hr : At w1 w.heap.size 46 32 (List.replicate 32 (B 0))) :
  UInv w ((w1.alloc (.cells #[B m] 5)).alloc (.cells #[.slice (some ⟨w1.heap.size, 0, none⟩) 1 1] 70)) (some ⟨w1.heap.size + 1, 0, none⟩) 1 0 [(.slice (some ⟨w1.heap.size, 0, none⟩) 1 1, [m])] ps m := by
 have h1 := alloc_new w1 #[B m] 5
 have h2 := alloc_new (w1.alloc (.cells #[B m] 5)) #[.slice (some ⟨w1.heap.size, 0, none⟩) 1 1] 70
 refine ⟨?_, ?_, ?_, ?_, ?_⟩
 ·have := World.ownsRow_lit (base := w.heap.size + 1) (e := 70) (size := 1) (w1.alloc (.cells #[B m] 5)) #[.slice (some ⟨w1.heap.size, 0, none⟩) 1 1] 1 (by rw [h1.2.2]; omega) (by simp [maxLen]) rfl
  rw [h1.2.2] at this
  exact this
 ·intro q hq
  simp only [List.mem_cons, List.not_mem_nil, or_false] at hq
  subst hq
  refine PartIn.grow ⟨_, _, rfl, Nat.le_refl _, h1.1.sl rfl, fun _ hh => ?_⟩ h2.2.1
  simp only [Option.map_some, Option.some.injEq] at hh
  omega
 ·unfold cat; simp [underB]
 ·exact h.grow' (Grow.trans _ _ _ h1.2.1 h2.2.1)
 ·exact hr.grow (Grow.trans _ _ _ h1.2.1 h2.2.1)
attribute [irreducible] underB longB
theorem under_any (m : UInt8) (A : Option Addr) (n c : Nat) (ps : List (Value × List UInt8)) {xs : List Value} (hx : Dig xs (sha (underB m (ps.map Prod.snd)))) (w : World) (hp : Parts w w.heap.size A n ps) (hn : n ≤ 400000) (hl : ∀ p ∈ ps, p.2.length ≤ 1000000) (ht : Tabs w) :
  Calls Tryz.prog 76 #[B m, .slice A n c] w fun e w' => e = .returned (.agg xs.toArray) ∧ Below w.heap.size w w' := by
 have HT := kp ht; have HP := kp hp; have HD := kp hx; have HL := kp hl
 have HB := kp (Below.refl w.heap.size w)
 have HN := kp hp.len
 clear hp ht hx hl
 show Calls Tryz.prog 76 #[.int .u8 (b8 m), .slice A n c] w _
 go_enter Tryz.func76, Tryz.ntmps76
 go_wp2_with (first | (with_reducible refine wpl_alloc (o := ⟨some 4, _, _, _, _, _⟩) rfl rfl zero_id ?_))
 intro w2_ hb2_ hb_ hsz2_
 have HX_ := kp (at_mk hb2_ len_id)
 clear hb2_ hsz2_
 replace HB := kp (HB.out.grow' hb_)
 have HR := HX_
 clear hb_ HX_
 try clear w_
 rename World => w_
 have HS := kp (u_start (m := m) (ps := ps) HB.out (by have := HR.out.lt; omega) HR.out)
 go_wp2_with fail
 go_loopw [5, 13] (fun v i wr => ∃ k : Nat, ∃ A' c' qs, k ≤ n ∧ i = .int .i64 k ∧ v = .slice A' (2 * k + 1) c' ∧ Hid (UInv w wr A' c' k qs ps m)) (fun _ i _ => n - (intOf i).toNat)
 case atStart => exact ⟨0, _, _, _, by omega, rfl, rfl, HS⟩
 case round =>
  obtain ⟨k, A3, c3, qs, hk, rfl, rfl, hinv⟩ := hrel
  clear HS HB HR
  by_cases hlt : k < n
  ·obtain ⟨b, off, A2, c2, bs, rfl, hps, hc, hcc, hs⟩ := (HP.out.below hinv.out.2.2.2.1).at_ hlt
   have HPK := kp (show PartOK _ w.heap.size (.slice A2 bs.length c2, bs) from ⟨A2, c2, rfl, hcc, hs⟩)
   have HPS := kp hps
   have hbl : bs.length ≤ 1000000 := HL.out _ (List.mem_of_getElem? hps)
   have hb64 : bs.length < 18446744073709551616 := by omega
   clear hps hs hcc
   go_wp2_with fail
   refine (bytes_any bs.length 4 _ hb64 (by omega) (by omega)).mono ?_
   rintro e w2 ⟨g4, rfl, ho4, hb2⟩
   have HO4 := kp ho4; have HB2 := kp hb2
   clear ho4 hb2
   have HOA := kp (own_below hinv.out.1 HB2.out)
   have hbl2 := hbl
   go_wp2_with (at_builtin; refine wpl_app1 rfl rfl el_su8 HOA.out rfl (m := 2) rfl rfl ?_ ?_ ?_ ?_ ?_)
   ·exact ⟨rfl, rfl⟩
   ·omega
   ·omega
   ·have h1 := hinv.out.2.2.2.2.lt; have h2 := HB2.out.size; omega
   ·intro A4 c4 w4 ho hg hA
    have HI := kp (u_step hinv.out HPK.out HPS.out HB2.out HO4.out ho hg (hA.imp_right fun ⟨a, h1, h2⟩ => by rw [h1]; exact congrArg some h2))
    clear ho hg hA
    go_wp2_with fail
    go_roundw
    case rel => exact ⟨k + 1, A4, c4, _, by omega, by go_num, by congr 1 <;> omega, HI⟩
    case measure => simp [intOf]; omega
  ·obtain rfl : k = n := by omega
   have HE := kp (u_end hinv.out HN.out)
   have HT2 := kp (HT.out.below hinv.out.2.2.2.1)
   have HB := kp hinv.out.2.2.2.1
   have HR := kp hinv.out.2.2.2.2
   clear HT
   go_wp2_with fail
   refine (dsum_any _ _ _ _ HD.out HE.out.2 _ HE.out.1 (by omega) (Nat.le_trans (underB_le m _ 1000000 (fun l hl => by obtain ⟨p, hp, rfl⟩ := List.mem_map.1 hl; exact HL.out p hp)) (by rw [List.length_map, HN.out]; omega)) HT2.out).mono ?_
   rintro e w5 ⟨rfl, hb_⟩
   have HR5 := kp (HR.out.grow hb_)
   have HB5 := kp (HB.out.grow' hb_)
   clear hb_ HR HB HT2 HE hinv
   have HR := HR5; have HB := HB5; clear HR5 HB5
   have HG := kp (Nat.le_refl w.heap.size)
   go_wp2_with (with_reducible refine wsb row_id HR.out.blk HR.out.len HD.out.len HD.out.one ?_)
   intro w2_ hb2_ hg2_ hsz2_
   replace HB := kp (put_below HB.out HG.out hg2_)
   replace HR := kp (at_mk hb2_ HD.out.len)
   clear hb2_ hg2_ hsz2_
   try clear w_
   rename World => w_
   go_wp2_with fail
   exact ret_cell rfl row_id HR.out.blk rfl HR.out.len rfl ⟨rfl, HB.out⟩
def halfN (n : Nat) : Nat := 2 ^ Nat.log2 (n - 1)
theorem halfN_lt {n : Nat} (h : 2 ≤ n) : halfN n < n := by
 unfold halfN
 have := Nat.log2_self_le (n := n - 1) (by omega)
 omega
theorem halfN_pos (n : Nat) : 0 < halfN n := Nat.two_pow_pos _
def leafB (b : List UInt8) : List UInt8 := sha (underB 1 [b])
def nodeB (a b : List UInt8) : List UInt8 := sha (underB 2 [a, b])
def noneB : List UInt8 := sha (underB 0 [])
open Go.RowKit
structure Sp where
 X : Type
 d : X
 val : X → Value
 ok : X → World → Prop
 st : ∀ x w w', ok x w → Grow w w' → ok x w'
def vwp (P : Program) (o : Oper) (a : Act) (w : World) (R : Value → World → Prop) : Prop :=
 match (execOp a.eval o).run P w with
 | .ok (.value v) w' => R v w'
 | .ok .skip w' => R undef w'
 | .ok (.enter f args) w' => Calls P f args w' fun e w'' => ∃ v, e = .returned v ∧ R v w''
 | .ok (.row row args) w' => Rows P row args w' R
 | _ => False
def fAnc (am : List Nat) (i k : Nat) : Bool := decide (k < i) && (am.getD i 0).testBit k
section
variable (P : Program) (md : Region.Mode) (ops : Array Oper) (am cl : List Nat) (sp : Nat → Sp) (w0 : World) (Q : Exit → Act → World → Prop)
def flA (am : List Nat) (L : List (Nat × (World → Prop))) (i : Nat) (w : World) : Prop := ∀ p ∈ L, fAnc am i p.1 = true → p.2 w
def wpL : List Nat → Act → List (Nat × (World → Prop)) → Prop
 | [], a, L => ∀ w, Grow w0 w → (∀ p ∈ L, p.2 w) → Q .normal a w
 | i :: us, a, L => match ops[i]? with
  | none => False
  | some o => if Region.wanted o (yielded ops a.tmps) then
    (if plCls cl i ≤ 2 then ∃ v, (∀ w, Grow w0 w → flA am L i w → (execOp a.eval o).run P w = .ok (.value v) w) ∧ wpL us (a.put o.dst v) L
    else (∀ w, Grow w0 w → flA am L i w → vwp P o a w fun v w' => Grow w w' ∧ ∃ x, v = (sp i).val x ∧ (sp i).ok x w') ∧ ∀ x, wpL us (a.put o.dst ((sp i).val x)) (L ++ [(i, (sp i).ok x)]))
   else wpL us (a.put o.dst undef) L
end
section
variable {P : Program} {md : Region.Mode} {ops : Array Oper} {am cl : List Nat} {sp : Nat → Sp} {w0 : World} {Q : Exit → Act → World → Prop}
def unl (ops : Array Oper) (listed : Array Bool) : List Nat := (List.range ops.size).filter fun i => !listed.getD i true
variable {o : Oper} {i : Nat} {us : List Nat} {a : Act} {L : List (Nat × (World → Prop))}
end
attribute [irreducible] wpL
end Go.Proofs.YtnnjjbkdjkjnpaaGreatDoor
namespace Go.Proofs.YtnnjjbkdjkjnpaaGreatDoor
open Go.RowKit Go.Shelf
theorem parts1 {w : World} {g : Nat} {t : TypeId} {A1 : Option Addr} {n1 c1 : Nat} {b1 : List UInt8} (hb : Blk w g t [.slice A1 n1 c1]) (h1 : Sl w w.heap.size 1 A1 n1 (b1.map B)) (k1 : n1 ≤ c1) :
  ∃ ps, Parts w w.heap.size (some ⟨g, 0, none⟩) 1 ps ∧ ps.map Prod.snd = [b1] :=
 ⟨[(.slice A1 n1 c1, b1)], parts_blk hb rfl (by intro p hp; simp only [List.mem_cons, List.not_mem_nil, or_false] at hp; subst hp; exact part_mk h1 k1), rfl⟩
theorem punder_any {m : UInt8} {A : Option Addr} {n c : Nat} {ls : List (List UInt8)} {xs : List Value} (hx : Dig xs (sha (underB m ls))) {w : World} (hp : ∃ ps, Parts w w.heap.size A n ps ∧ ps.map Prod.snd = ls) (hn : n ≤ 400000) (hl : ∀ l ∈ ls, l.length ≤ 1000000) (ht : Tabs w) :
  Calls Tryz.prog 76 #[.int .u8 (b8 m), .slice A n c] w fun e w' => e = .returned (.agg xs.toArray) ∧ Below w.heap.size w w' := by
 obtain ⟨ps, h1, rfl⟩ := hp
 exact under_any m A n c ps hx w h1 hn (fun p hp => hl _ (List.mem_map_of_mem hp)) ht
end Go.Proofs.YtnnjjbkdjkjnpaaGreatDoor

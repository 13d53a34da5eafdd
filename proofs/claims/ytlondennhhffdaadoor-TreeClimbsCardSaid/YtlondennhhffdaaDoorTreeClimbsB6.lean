/- Contract of sha.Hex. -/
import Derived.Test.YtlondennhhffdaaDoorTreeClimbsB5
import Derived.Laws.IdiomStrings
import Derived.Lib.SlBytesConst
import Derived.Test.YtlondennhhffdaaDoorTreeClimbsB4
import Derived.Stop.BytesEq
import Derived.Laws.IdiomCopy
/- Contract of sha.Hex. -/
namespace Go.Proofs.YtlondennhhffdaaDoor
open Go.RowKit Go.Shelf
set_option linter.unusedVariables false

def digB (n : Nat) : UInt8 := if n < 10 then UInt8.ofNat (48 + n) else UInt8.ofNat (87 + n)
def hexB (bs : List UInt8) : List UInt8 := bs.flatMap fun x => [digB (x.toNat / 16), digB (x.toNat % 16)]
theorem hexB_length (bs : List UInt8) : (hexB bs).length = 2 * bs.length := by
  unfold hexB
  induction bs with
  | nil => rfl
  | cons x xs ih => simp only [List.flatMap_cons, List.length_append, ih]; simp; omega
theorem hexB_snoc (bs : List UInt8) (k : Nat) (hk : k < bs.length) : hexB (bs.take (k + 1)) = hexB (bs.take k) ++ [digB ((bs[k]?.getD 0).toNat / 16), digB ((bs[k]?.getD 0).toNat % 16)] := by
  unfold hexB
  rw [List.take_add_one, List.flatMap_append, List.getElem?_eq_getElem hk]
  rfl
def digStr : ByteArray := ⟨#[48, 49, 50, 51, 52, 53, 54, 55, 56, 57, 97, 98, 99, 100, 101, 102]⟩
theorem digStr_size : digStr.size = 16 := by decide +kernel
theorem fold_digStr : (⟨#[48, 49, 50, 51, 52, 53, 54, 55, 56, 57, 97, 98, 99, 100, 101, 102]⟩ : ByteArray) = digStr := rfl
theorem digStr_at : ∀ i : Fin 16, (digStr[i.val]?).getD 0 = digB i.val := by decide +kernel
theorem run_index_digits {P : Program} (w : World) (t : TypeId) (k : IntKind) (i : Int) (h : P.underlying t = some .string) (h0 : 0 ≤ i) (h1 : i ≤ 15) :
    (Instr.index t (.string digStr) (.int k i)).run P w = .ok (.int .u8 (b8 (digB i.toNat))) w := by
  have hi : 0 ≤ i ∧ i < (digStr.size : Int) := by rw [digStr_size]; omega
  have h2 : i.toNat < digStr.size := by rw [digStr_size]; omega
  rw [run_index_string w t digStr k i h, dif_pos hi]
  have := digStr_at ⟨i.toNat, by omega⟩
  simp only [ByteArray.getElem?_lt' _ _ h2, Option.getD_some] at this
  rw [this]; rfl
theorem digit_at (i : Nat) (h : i < 16) : (#[48, 49, 50, 51, 52, 53, 54, 55, 56, 57, 97, 98, 99, 100, 101, 102] : Array UInt8)[i]? = some (digB i) := by
  revert h; revert i; decide

attribute [irreducible] hexB digB digStr
attribute [local go_sem high] fold_digStr run_index_digits
set_option maxRecDepth 100000 in
set_option maxHeartbeats 1000000 in
theorem hex_any (bs : List UInt8) (w : World) (hl : bs.length = 32) :
    Calls Tryd.prog 21 #[.agg (bs.map B).toArray] w fun e w' => e = .returned (.string ⟨(hexB bs).toArray⟩) ∧ Below w.heap.size w w' := by
  have hca : ∀ k, k < 32 → (bs.map B)[k]? = some (.int .u8 (b8 (bs[k]?.getD 0))) := fun k hk => by
    rw [List.getElem?_map, List.getElem?_eq_getElem (by omega)]; rfl
  have HSN := Lib.hid (fun k (hk : k < 32) => hexB_snoc bs k (by omega))
  have HALL := Lib.hid (show hexB (bs.take 32) = hexB bs by rw [List.take_of_length_le (by omega)])
  have HLEN := Lib.hid (hexB_length bs)
  have HL := Lib.hid hl
  have HLX := Lib.hid (show (bs.map B).length = 32 by rw [List.length_map]; exact hl)
  obtain ⟨xs, hxs⟩ : ∃ xs, xs = bs.map B := ⟨_, rfl⟩
  rw [← hxs] at hca HLX ⊢
  have HCA := Lib.hid hca; clear hca
  clear hxs hl
  go_enter Tryd.func21, Tryd.ntmps21
  go_wp2_with (first | (with_reducible refine wpl_box (o := ⟨some 1, _, _, _, _, _⟩) rfl rfl rfl ?_))
  intro w1 hb1 hbw1 hsz1
  have HB1 := Lib.hid hb1; clear hb1
  have HBW1 := Lib.hid hbw1; clear hbw1
  have HSZ1 := Lib.hid hsz1; clear hsz1
  generalize hgd : w.heap.size = g at *
  have HG := Lib.hid hgd; clear hgd
  go_wp2_with (first | (with_reducible refine wpl_loadb (o := ⟨some 6, _, _, _, _, _⟩) rfl rfl row_32 HB1.out rfl HLX.out ?_))
  obtain ⟨wo, rfl⟩ : ∃ wo : World, wo = w1 := ⟨_, rfl⟩
  go_wp2_with fail
  go_loopw [3, 7] (fun v i wr => ∃ k : Nat, ∃ A' c', k ≤ 32 ∧ i = .int .i64 k ∧ v = .slice A' (2 * k) c' ∧ Hid (wr.ownsRow (g + 1) 5 1 (.slice A' (2 * k) c') (2 * k) ((hexB (bs.take k)).map B)) ∧ Hid (Below g w wr) ∧ Hid (g + 1 ≤ wr.heap.size)) (fun v i _ => 32 - (intOf i).toNat)
  case atStart => exact ⟨0, none, 0, by omega, rfl, rfl, ⟨by simp [hexB_length], .inl ⟨rfl, rfl⟩⟩, HBW1, by rw [HSZ1.out]; exact Nat.le_refl _⟩
  case round =>
    obtain ⟨k, A2, c2, hk, rfl, rfl, hown, hbw, hsz⟩ := hrel
    by_cases hk32 : k < 32
    · have hidx := fun w => run_index_agg (P := Tryd.prog) (T := 26) (e := 5) (k := k) Tryd.underlying26 HLX.out (by kernel_rfl) (by kernel_rfl) (HCA.out k hk32) w
      have hs := HSN.out k hk32
      generalize bs[k]?.getD 0 = x at *
      have HSK := Lib.hid hs; clear hs
      repeat' (first | (with_reducible refine wp_tail0 (id := 5) 7 (by kernel_rfl) rfl rfl rfl (by kernel_rfl) ?_) | go_values | go_skip | go_guarded | go_step | go_upon | go_back)
      intro w6 hd6
      simp only [List.take_succ_cons, List.take_zero, List.drop_succ_cons, List.drop_zero]
      have HO6 := Lib.hid (hd6.own hown.out)
      have HB6 := Lib.hid (hd6.below hbw.out)
      have HZ6 := Lib.hid (show g + 1 ≤ w6.heap.size by rw [hd6.size]; exact hsz.out)
      clear hd6 hown hbw hsz
      have b0 := b8_range x
      obtain ⟨b1, b2⟩ := b0
      have a0 : 0 ≤ b8 x / 16 := by omega
      have a1 : b8 x / 16 ≤ 15 := by omega
      have a2 : (b8 x / 16).toNat = x.toNat / 16 := by unfold b8; omega
      have a3 : (b8 x % 16).toNat = x.toNat % 16 := by unfold b8; omega
      have a4 : 0 ≤ b8 x % 16 := by omega
      have a5 : b8 x % 16 ≤ 15 := by omega
      have a6 : bits BinOp.and IntKind.u8 (b8 x) 15 = b8 x % 16 := by
        have h : ∀ z : UInt8, bits BinOp.and IntKind.u8 (b8 z) 15 = b8 z % 16 := by
          intro z
          have hz : z = UInt8.ofNat z.toNat := by simp
          have hl := z.toNat_lt
          rw [hz]
          generalize z.toNat = m at *
          have : ∀ m : Fin 256, bits BinOp.and IntKind.u8 (b8 (UInt8.ofNat m.val)) 15 = b8 (UInt8.ofNat m.val) % 16 := by decide +kernel
          exact this ⟨m, hl⟩
        exact h x
      repeat still_step
      refine wpStill_nil ?_
      clear a0 a1 a2 a3 a4 a5 a6 b1 b2
      go_wp2_with (at_builtin; refine wpl_app1 rfl rfl el_u8 HO6.out rfl (m := 2) rfl rfl ?_ ?_ ?_ HZ6.out ?_)
      · simp [Value.oneCell']
      · omega
      · omega
      · intro A7 c7 w7 ho hg _
        have HO7 := Lib.hid ho
        have HB7 := Lib.hid (HB6.out.grown hg (by have := HZ6.out; omega) (fun r hr => by have := own_from HO6.out r (by simpa using hr); omega))
        have HZ7 := Lib.hid (Nat.le_trans HZ6.out hg.size)
        clear ho hg
        go_wp2_with fail
        dsimp only [NormalOnly]
        go_wp2_with fail
        go_roundw
        case rel =>
          refine ⟨k + 1, A7, c7, by omega, by go_num, rfl, ?_, HB7, HZ7⟩
          show w7.ownsRow _ _ _ _ _ _
          rw [HSK.out, List.map_append]
          exact HO7.out
        case measure => simp [intOf]; omega
    · obtain rfl : k = 32 := by omega
      rw [HALL.out] at hown
      obtain ⟨gs, rfl, hg1, hg2, hcs⟩ := own_form hown.out (by omega)
      have hconv : ∀ w', (∀ j, w'.cell? j = wr.cell? j) → (convert 22 9 (.slice (some ⟨gs, 0, none⟩) 64 c2)).run Tryd.prog w' = .ok (.string ⟨(hexB bs).toArray⟩) w' := by
        intro w' hw'
        have hln : (hexB bs).length = 64 := by rw [HLEN.out, HL.out]
        have h := run_convert_bytes_back (P := Tryd.prog) w' 22 9 5 ⟨gs, 0, none⟩ c2 (hexB bs) Tryd.underlying22 (by kernel_rfl) (by kernel_rfl) (fun j hj => by
          have h1 := hown.out.cellAt j (by omega)
          have e : (Addr.add ⟨gs, 0, none⟩ j) = ⟨gs, j, none⟩ := by simp [Addr.add]; omega
          rw [e, hw', h1, List.getElem?_map, List.getElem?_eq_getElem hj]
          rfl)
        rw [hln] at h
        exact h
      have hconv2 := hconv wr (fun _ => rfl)
      clear hconv
      rw [show 2 * 32 = 64 from rfl]
      go_wp2_with fail
      go_ret
      exact ⟨rfl, by rw [HG.out]; exact hbw.out⟩
end Go.Proofs.YtlondennhhffdaaDoor

/- seisinlaw03.awake. -/
namespace Go.Proofs.YtlondennhhffdaaDoor
open Go.RowKit Go.Shelf
set_option linter.unusedVariables false

theorem abc_hex : hexB (sha [97, 98, 99]) = [98, 97, 55, 56, 49, 54, 98, 102, 56, 102, 48, 49, 99, 102, 101, 97, 52, 49, 52, 49, 52, 48, 100, 101, 53, 100, 97, 101, 50, 50, 50, 51, 98, 48, 48, 51, 54, 49, 97, 51, 57, 54, 49, 55, 55, 97, 57, 99, 98, 52, 49, 48, 102, 102, 54, 49, 102, 50, 48, 48, 49, 53, 97, 100] := by decide +kernel

theorem Sl.litm {sz : Nat} (w : World) (cs : Array Value) (t : TypeId) (fr : Nat × Nat) (n : Nat) (h : cs.size = n * sz) : Sl (w.alloc (.cells cs t fr)) (w.heap.size + 1) sz (some ⟨w.heap.size, 0, none⟩) n cs.toList :=
  ⟨by simpa using h, fun _ => ⟨_, _, rfl, by omega, fun j u hu => by rw [Nat.zero_add, World.cell?_alloc_mark]; simpa using hu⟩⟩
theorem conv_abc (w : World) : (convert 22 22 (.slice (some ⟨w.heap.size, 0, none⟩) 3 3)).run Tryd.prog (w.alloc (.cells #[.int .u8 97, .int .u8 98, .int .u8 99] 5)) = .ok (.slice (some ⟨w.heap.size, 0, none⟩) 3 3) (w.alloc (.cells #[.int .u8 97, .int .u8 98, .int .u8 99] 5 (3, 4))) :=
  Go.Lib.run_convert_bytes_const w 22 5 #[.int .u8 97, .int .u8 98, .int .u8 99] 3 3 Tryd.underlying22 (by kernel_rfl)
attribute [local go_sem high] conv_abc
set_option maxRecDepth 100000 in
set_option maxHeartbeats 1000000 in
theorem awake3_any (w : World) (ht : Tabs w) : Calls Tryd.prog 17 #[] w fun e w' => e = .returned (.bool true) ∧ Below w.heap.size w w' := by
  have HT := Lib.hid ht; clear ht
  have HX := Lib.hid abc_hex
  have HSL := Lib.hid (sha_length [97, 98, 99])
  have hbw : Below w.heap.size w ((w.alloc (.cells #[B 97, B 98, B 99] 5 (3, 4))).alloc (.cells #[.slice (some ⟨w.heap.size, 0, none⟩) 3 3] 22)) := ((Below.refl _ _).alloc (Nat.le_refl _) _).alloc (by simp) _
  have hparts : Parts ((w.alloc (.cells #[B 97, B 98, B 99] 5 (3, 4))).alloc (.cells #[.slice (some ⟨w.heap.size, 0, none⟩) 3 3] 22)) (w.heap.size + 2) (some ⟨w.heap.size + 1, 0, none⟩) 1 [(.slice (some ⟨w.heap.size, 0, none⟩) 3 3, [97, 98, 99])] := by
    have h1 := Sl.litm (sz := 1) w #[B 97, B 98, B 99] 5 (3, 4) 3 rfl
    have h2 := Sl.lit (sz := 1) (w.alloc (.cells #[B 97, B 98, B 99] 5 (3, 4))) #[.slice (some ⟨w.heap.size, 0, none⟩) 3 3] 22 1 rfl
    have e : (w.alloc (.cells #[B 97, B 98, B 99] 5 (3, 4))).heap.size = w.heap.size + 1 := by simp
    rw [e] at h2
    refine ⟨h2, ?_⟩
    intro p hp
    obtain rfl : p = (.slice (some ⟨w.heap.size, 0, none⟩) 3 3, [97, 98, 99]) := by simpa using hp
    exact ⟨_, 3, rfl, by simp, (h1.alloc (by rw [e]; exact Nat.le_refl _) _).more (by omega)⟩
  have HP := Lib.hid hparts; clear hparts
  have HBW := Lib.hid hbw; clear hbw
  have HTB := Lib.hid (HT.out.below HBW.out)
  go_enter Tryd.func17, Tryd.ntmps17
  go_wp2_with fail
  refine (sum_any _ 1 1 [(.slice (some ⟨w.heap.size, 0, none⟩) 3 3, [97, 98, 99])] _ (by simpa using HP.out) (by omega) (by simp [cat]) HTB.out).mono ?_
  rintro e w2 ⟨rfl, hb2⟩
  have HB2 := Lib.hid (below_step HBW.out (by simp; omega) hb2)
  rw [show cat [((.slice (some ⟨w.heap.size, 0, none⟩) 3 3 : Value), ([97, 98, 99] : List UInt8))] = [97, 98, 99] by simp [cat]]
  clear hb2 HP HBW HTB
  generalize hsh : sha [97, 98, 99] = ds at *
  clear hsh
  obtain ⟨xs, hxs⟩ : ∃ xs, xs = ds.map B := ⟨_, rfl⟩
  rw [← hxs]
  have hhex := fun w => hex_any ds w HSL.out
  rw [← hxs, HX.out] at hhex
  have HHX := Lib.hid hhex
  clear hhex hxs
  go_wp2_with fail
  refine (HHX.out w2).mono ?_
  rintro e w3 ⟨rfl, hb3⟩
  have HB3 := Lib.hid (below_step HB2.out HB2.out.size hb3)
  clear hb3 HB2
  go_wp2_with fail
  have hsm := same_any (List.replicate 32 0) (List.replicate 32 0) w3 (by simp) (by simp)
  refine Calls.mono (show Calls Tryd.prog 22 _ w3 _ from hsm) ?_
  rintro e w4 ⟨rfl, hb4⟩
  have HB4 := Lib.hid (below_step HB3.out HB3.out.size hb4)
  rw [show decide (List.replicate 32 (0 : UInt8) = List.replicate 32 0) = true by simp]
  clear hsm hb4 HB3
  go_wp2_with fail
  go_ret
  exact ⟨rfl, HB4.out⟩
end Go.Proofs.YtlondennhhffdaaDoor

/- The contracts of layer 3, ready for the laws: facts that last while memory grows; equality of digests. -/
namespace Go.Proofs.YtlondennhhffdaaDoor
open Go.RowKit Go.Shelf
set_option linter.unusedVariables false
theorem Tabs.grow {w w' : World} (h : Tabs w) (k : Grow w w') : Tabs w' := h.below k
theorem Parts.grow {w w' : World} {A : Option Addr} {n : Nat} {ps : List (Value × List UInt8)} (h : Parts w w.heap.size A n ps) (k : Grow w w') : Parts w' w'.heap.size A n ps := (h.below k).more k.size
theorem eql_ids (a b : List UInt8) (ha : a.length = 32) (hb : b.length = 32) (w : World) : (binOp .eql 26 (.agg (a.map B).toArray) (.agg (b.map B).toArray)).run Tryd.prog w = .ok (.bool (a == b)) w :=
  run_eql_bytes w 26 5 32 Tryd.underlying26 (by kernel_rfl) (fun w => by
    obtain ⟨i, hi, hs⟩ := Option.map_eq_some_iff.1 (show (Tryd.prog.info? 5).map (·.size) = some 1 by kernel_rfl)
    simp [sizeOf, typeInfo, hi, hs]) a b ha hb
/-- A digest's cells. -/
def Dig (xs : List Value) (d : List UInt8) : Prop := xs = d.map B ∧ d.length = 32
theorem Dig.sha (bs : List UInt8) : Dig ((sha bs).map B) (sha bs) := ⟨rfl, sha_length bs⟩
theorem Dig.len {xs : List Value} {d : List UInt8} (h : Dig xs d) : xs.length = 32 := by rw [h.1, List.length_map, h.2]
theorem Dig.one {xs : List Value} {d : List UInt8} (h : Dig xs d) : ∀ u ∈ xs, u.oneCell' = true := by rw [h.1]; exact all_bytes d
theorem Dig.eql {xs ys : List Value} {a b : List UInt8} (h : Dig xs a) (k : Dig ys b) (w : World) : (binOp .eql 26 (.agg xs.toArray) (.agg ys.toArray)).run Tryd.prog w = .ok (.bool (a == b)) w := by
  rw [h.1, k.1]; exact eql_ids a b h.2 k.2 w
theorem Dig.self {xs : List Value} {a : List UInt8} (h : Dig xs a) (w : World) : (binOp .eql 26 (.agg xs.toArray) (.agg xs.toArray)).run Tryd.prog w = .ok (.bool true) w := by
  rw [h.eql h]; simp
theorem Dig.neq {xs ys : List Value} {a b : List UInt8} (h : Dig xs a) (k : Dig ys b) (w : World) : (binOp .neq 26 (.agg xs.toArray) (.agg ys.toArray)).run Tryd.prog w = .ok (.bool (a != b)) w := by
  have e := h.eql k w
  unfold binOp at e ⊢
  simp only [Sem.run_bind] at e ⊢
  generalize (Op.equal 26 (.agg xs.toArray) (.agg ys.toArray)).run Tryd.prog w = r at *
  cases r with
  | ok v w' =>
    simp only [Result.andThen_ok, Sem.run_pure, Result.ok.injEq, Value.bool.injEq] at e ⊢
    obtain ⟨rfl, rfl⟩ := e
    exact ⟨rfl, rfl⟩
  | halt x w' => simp [Result.andThen] at e
/-- A list of slices of bytes. -/
def PartOK (w : World) (Bd : Nat) (p : Value × List UInt8) : Prop := ∃ A c, p.1 = .slice A p.2.length c ∧ p.2.length ≤ c ∧ Sl w Bd 1 A p.2.length (p.2.map B)
theorem part_mk {w : World} {Bd n c : Nat} {A : Option Addr} {bs : List UInt8} (h : Sl w Bd 1 A n (bs.map B)) (hc : n ≤ c) : PartOK w Bd (.slice A n c, bs) := by
  have e : bs.length = n := by have := h.len; simpa using this
  refine ⟨A, c, by rw [e], by rw [e]; exact hc, by rw [e]; exact h⟩
theorem parts_mk {w : World} {Bd n : Nat} {A : Option Addr} {ps : List (Value × List UInt8)} (h : Sl w Bd 1 A n (ps.map Prod.fst)) (hp : ∀ p ∈ ps, PartOK w Bd p) : Parts w Bd A n ps := ⟨h, hp⟩
theorem parts_blk {w : World} {g n : Nat} {t : TypeId} {ps : List (Value × List UInt8)} (h : Blk w g t (ps.map Prod.fst)) (hn : ps.length = n) (hp : ∀ p ∈ ps, PartOK w w.heap.size p) : Parts w w.heap.size (some ⟨g, 0, none⟩) n ps :=
  parts_mk (h.sl (by simp [hn])) hp
theorem dsum_any (A : Option Addr) (n c : Nat) (ps : List (Value × List UInt8)) {bs : List UInt8} {xs : List Value} (hx : Dig xs (sha bs)) (hcat : cat ps = bs) (w : World) (hp : Parts w w.heap.size A n ps) (hn : n ≤ 1000000) (hl : bs.length ≤ 1099511627776) (ht : Tabs w) :
    Calls Tryd.prog 19 #[.slice A n c] w fun e w' => e = .returned (.agg xs.toArray) ∧ Below w.heap.size w w' := by
  rw [hx.1, ← hcat]
  exact sum_any A n c ps w hp hn (by rw [hcat]; exact hl) ht
end Go.Proofs.YtlondennhhffdaaDoor

/- Variables that hold whole arrays: facts that last while memory grows. -/
namespace Go.Proofs.YtlondennhhffdaaDoor
open Go.RowKit Go.Shelf
set_option linter.unusedVariables false
theorem wanted_none {o : Oper} {y : Nat → Option Bool} (h : o.guard = none) : Region.wanted o y = true := by unfold Region.wanted; rw [h]
/-- A block that holds n cells. -/
def At (w : World) (g : Nat) (T : TypeId) (n : Nat) (xs : List Value) : Prop := Blk w g T xs ∧ xs.length = n
theorem at_mk {w : World} {g : Nat} {T : TypeId} {n : Nat} {xs : List Value} (h : Blk w g T xs) (hn : xs.length = n) : At w g T n xs := ⟨h, hn⟩
theorem At.blk {w : World} {g : Nat} {T : TypeId} {n : Nat} {xs : List Value} (h : At w g T n xs) : Blk w g T xs := h.1
theorem At.len {w : World} {g : Nat} {T : TypeId} {n : Nat} {xs : List Value} (h : At w g T n xs) : xs.length = n := h.2
theorem At.grow {w w' : World} {g : Nat} {T : TypeId} {n : Nat} {xs : List Value} (h : At w g T n xs) (k : Grow w w') : At w' g T n xs := ⟨h.1.grow k, h.2⟩
theorem At.sl {w : World} {g : Nat} {T : TypeId} {n : Nat} {xs : List Value} (h : At w g T n xs) : Sl w w.heap.size 1 (some ⟨g, 0, none⟩) n xs := h.1.sl (by rw [h.2]; omega)
theorem At.lt {w : World} {g : Nat} {T : TypeId} {n : Nat} {xs : List Value} (h : At w g T n xs) : g < w.heap.size := h.1.lt
theorem var_grow {w w1 w2 : World} (h1 : Below w.heap.size w w1) (hz : w1.heap.size = w.heap.size + 1) (hg : w1.grownBy w2 (some w.heap.size)) : Grow w w2 :=
  h1.grown hg (by omega) (by intro g hg; cases hg; exact Nat.le_refl _)
theorem put_below {w0 w w2 : World} {g : Nat} (h : Below w0.heap.size w0 w) (hg : w0.heap.size ≤ g) (k : w.grownBy w2 (some g)) : Below w0.heap.size w0 w2 :=
  h.grown k h.size (by intro q hq; cases hq; exact hg)
theorem len_id {v : Value} : (List.replicate 32 v).length = 32 := by simp
theorem Dig.bytes {w : World} {A : Option Addr} {n : Nat} {xs : List Value} {d : List UInt8} (h : Dig xs d) (hs : Sl w w.heap.size 1 A n xs) : Sl w w.heap.size 1 A n (d.map B) := by rw [← h.1]; exact hs
/-- A row of this call's own, appended to: what lay below the call's base stays. -/
theorem app_below {w0 w w2 : World} {A : Option Addr} {e : TypeId} {sz n c : Nat} {xs : List Value} (h : Below w0.heap.size w0 w) (ho : w.ownsRow w0.heap.size e sz (.slice A n c) n xs) (k : w.grownBy w2 (A.map Addr.block)) : Below w0.heap.size w0 w2 :=
  below_grown h k h.size (own_from ho)
end Go.Proofs.YtlondennhhffdaaDoor

/- Contracts of layer 6: a digest's bytes, a key filled, a pad turned. -/
namespace Go.Proofs.YtlondennhhffdaaDoor
open Go.RowKit Go.Shelf
set_option linter.unusedVariables false

theorem Dig.at_ {xs : List Value} {d : List UInt8} (h : Dig xs d) {k : Nat} (hk : k < 32) : ∃ x : UInt8, xs[k]? = some (.int .u8 (b8 x)) ∧ d[k]? = some x := by
  have hl := h.2
  refine ⟨d[k]'(by omega), ?_, List.getElem?_eq_getElem (by omega)⟩
  rw [h.1, List.getElem?_map, List.getElem?_eq_getElem (by omega)]; rfl

set_option maxRecDepth 100000 in
set_option maxHeartbeats 1000000 in
theorem tbytes_any {xs : List Value} {d : List UInt8} (hx : Dig xs d) (w : World) :
    Calls Tryd.prog 56 #[.agg xs.toArray] w fun e w' => ∃ A' c', e = .returned (.slice A' 32 c') ∧ Sl w' w'.heap.size 1 A' 32 (d.map B) ∧ 32 ≤ c' ∧ Below w.heap.size w w' := by
  have HD := Lib.hid hx
  have HB := Lib.hid (Below.refl w.heap.size w)
  clear hx
  go_enter Tryd.func56, Tryd.ntmps56
  go_wp2_with (first | (with_reducible refine wpl_box (o := ⟨some 1, _, _, _, _, _⟩) rfl rfl rfl ?_))
  intro w2_ hb2_ hb_ hsz2_
  have HX_ := Lib.hid (at_mk hb2_ HD.out.len)
  clear hb2_ hsz2_
  have HB_ := Lib.hid (HB.out.grow' hb_)
  clear HB
  have HB := HB_
  clear HB_
  have HX := HX_
  clear hb_ HX_
  try clear w_
  rename World => w_
  go_wp2_with fail
  go_loopw [3, 4] (fun v i wr => ∃ k : Nat, ∃ A' c', k ≤ 32 ∧ i = .int .i64 k ∧ v = .slice A' k c' ∧ Hid (wr.ownsRow (w.heap.size + 1) 5 1 (.slice A' k c') k (xs.take k)) ∧ Hid (Below w.heap.size w wr) ∧ Hid (At wr w.heap.size 26 32 xs)) (fun _ i _ => 32 - (intOf i).toNat)
  case atStart => exact ⟨0, none, 0, by omega, rfl, rfl, Lib.hid (by simpa using World.ownsRow_nil _ _ _ _), HB, HX⟩
  case round =>
    obtain ⟨k, A3, c3, hk, rfl, rfl, hown, hbw, hat⟩ := hrel
    clear HB HX
    by_cases hlt : k < 32
    · obtain ⟨x, hx, _⟩ := HD.out.at_ hlt
      have hc := hat.out.blk.at_ hx
      have HXK := Lib.hid hx
      clear hx
      go_wp2_with (at_builtin; refine wpl_app1 rfl rfl el_u8 hown.out rfl (m := 1) rfl rfl ?_ ?_ ?_ ?_ ?_)
      · rfl
      · omega
      · omega
      · have := hat.out.lt; omega
      · intro A4 c4 w4 ho hg hA
        have HO := Lib.hid (show w4.ownsRow (w.heap.size + 1) 5 1 (.slice A4 (k + 1) c4) (k + 1) (xs.take (k + 1)) by rw [List.take_add_one, HXK.out]; exact ho)
        have HB := Lib.hid (show Below w.heap.size w w4 from hbw.out.grown hg hbw.out.size (fun g hg => by have := own_from hown.out g hg; omega))
        have HX := Lib.hid (at_mk (hat.out.blk.grown hg (by intro hh; have := own_from hown.out _ hh.symm; omega)) hat.out.len)
        clear ho hg hA hc
        go_wp2_with fail
        go_roundw
        case rel => exact ⟨k + 1, A4, c4, by omega, by go_num, rfl, HO, HB, HX⟩
        case measure => simp [intOf]; omega
    · obtain rfl : k = 32 := by omega
      have e : xs.take 32 = d.map B := by rw [List.take_of_length_le (by rw [HD.out.len]; exact Nat.le_refl _), HD.out.1]
      have HO := Lib.hid (e ▸ hown.out)
      clear e
      have HC := Lib.hid (own_form hown.out (by omega))
      go_wp2_with fail
      go_ret
      exact ⟨A3, c3, rfl, Sl.of_own HO.out, (by obtain ⟨g, _, _, _, h⟩ := HC.out; exact h), hbw.out⟩

theorem row_pad : RowT Tryd.prog 83 64 := ⟨_, Tryd.underlying83, by kernel_rfl, by kernel_rfl⟩
theorem zero_pad : (Tryd.prog.info? 83).map (·.zero) = some (some (.agg (List.replicate 64 (B 0)).toArray)) := by kernel_rfl
theorem len_pad {v : Value} : (List.replicate 64 v).length = 64 := by simp
/-- A pad's cells. -/
def Pad (xs : List Value) (p : List UInt8) : Prop := xs = p.map B ∧ p.length = 64
theorem Pad.len {xs : List Value} {d : List UInt8} (h : Pad xs d) : xs.length = 64 := by rw [h.1, List.length_map, h.2]
theorem Pad.one {xs : List Value} {d : List UInt8} (h : Pad xs d) : ∀ u ∈ xs, u.oneCell' = true := by rw [h.1]; exact all_bytes d

def turnUpto (p : List UInt8) (m : UInt8) (k : Nat) : List UInt8 := (p.take k).map (· ^^^ m) ++ p.drop k
theorem turnUpto_len (p : List UInt8) (m : UInt8) (k : Nat) : (turnUpto p m k).length = p.length := by
  unfold turnUpto; rw [List.length_append, List.length_map, List.length_take, List.length_drop]; omega
theorem turnUpto_at (p : List UInt8) (m : UInt8) (k : Nat) (x : UInt8) (h : p[k]? = some x) : (turnUpto p m k)[k]? = some x := by
  have hk := (List.getElem?_eq_some_iff.1 h).1
  unfold turnUpto
  rw [List.getElem?_append_right (by rw [List.length_map, List.length_take]; omega), List.length_map, List.length_take, List.getElem?_drop]
  rw [show k + (k - min k p.length) = k by omega]; exact h
theorem turnUpto_set (p : List UInt8) (m : UInt8) (k : Nat) (x : UInt8) (h : p[k]? = some x) : (turnUpto p m k).set k (x ^^^ m) = turnUpto p m (k + 1) := by
  have hk := (List.getElem?_eq_some_iff.1 h).1
  unfold turnUpto
  rw [List.set_append_right _ _ (by rw [List.length_map, List.length_take]; omega), List.length_map, List.length_take, show k - min k p.length = 0 by omega, List.take_add_one, h]
  have hd : p.drop k = x :: p.drop (k + 1) := by rw [List.drop_eq_getElem_cons hk, (List.getElem?_eq_some_iff.1 h).2]
  rw [hd]
  simp
theorem turnUpto_all (p : List UInt8) (m : UInt8) (k : Nat) (h : p.length ≤ k) : turnUpto p m k = p.map (· ^^^ m) := by
  unfold turnUpto; rw [List.take_of_length_le h, List.drop_of_length_le h, List.append_nil]
attribute [irreducible] turnUpto
attribute [local go_sem high] xor_b
set_option maxRecDepth 100000 in
set_option maxHeartbeats 1000000 in
theorem turned_any {xs : List Value} {p : List UInt8} (hx : Pad xs p) (m : UInt8) (w : World) :
    Calls Tryd.prog 58 #[.agg xs.toArray, .int .u8 (b8 m)] w fun e w' => ∃ g, e = .returned (.slice (some ⟨g, 0, none⟩) 64 64) ∧ Sl w' w'.heap.size 1 (some ⟨g, 0, none⟩) 64 ((p.map (· ^^^ m)).map B) ∧ Below w.heap.size w w' := by
  have HD := Lib.hid hx
  have HB := Lib.hid (Below.refl w.heap.size w)
  clear hx
  go_enter Tryd.func58, Tryd.ntmps58
  go_wp2_with (first | (with_reducible refine wpl_box (o := ⟨some 2, _, _, _, _, _⟩) rfl rfl rfl ?_))
  intro w2_ hb2_ hb_ hsz2_
  have HX_ := Lib.hid (at_mk hb2_ HD.out.len)
  clear hb2_ hsz2_
  have HB_ := Lib.hid (HB.out.grow' hb_)
  clear HB
  have HB := HB_
  clear HB_
  have HX := HX_
  clear hb_ HX_
  try clear w_
  rename World => w_
  go_wp2_with fail
  go_loopw [6] (fun i wr => ∃ k : Nat, k ≤ 64 ∧ i = .int .i64 k ∧ Hid (Below w.heap.size w wr) ∧ Hid (At wr w.heap.size 83 64 ((turnUpto p m k).map B))) (fun i _ => 64 - (intOf i).toNat)
  case atStart => exact ⟨0, by omega, rfl, HB, Lib.hid (by have := HX.out; rw [HD.out.1] at this; unfold turnUpto; simpa using this)⟩
  case round =>
    obtain ⟨k, hk, rfl, hbw, hat⟩ := hrel
    clear HB HX
    by_cases hlt : k < 64
    · obtain ⟨x, hx⟩ : ∃ x, p[k]? = some x := ⟨_, List.getElem?_eq_getElem (by rw [HD.out.2]; exact hlt)⟩
      have hc := hat.out.blk.at_ (show ((turnUpto p m k).map B)[k]? = some (.int .u8 (b8 x)) by rw [List.getElem?_map, turnUpto_at p m k x hx]; rfl)
      have hfz := hat.out.blk.frozen k
      have gk : (k : Int) < 64 := by omega
      have HSX := Lib.hid (turnUpto_set p m k x hx)
      clear hx
      go_wp2_with fail
      go_roundw
      case rel =>
        refine ⟨k + 1, by omega, by go_num, Lib.hid (hbw.out.setCell (p := ⟨w.heap.size, k, none⟩) (Nat.le_refl _) _), Lib.hid (at_mk ?_ ?_)⟩
        · have := hat.out.blk.set_ k (B (x ^^^ m))
          rw [← List.map_set, HSX.out] at this
          exact this
        · rw [List.length_map, turnUpto_len]; exact HD.out.2
      case measure => simp [intOf]; omega
    · obtain rfl : k = 64 := by omega
      have HO := Lib.hid (show At wr w.heap.size 83 64 ((p.map (· ^^^ m)).map B) by have := hat.out; rw [turnUpto_all _ _ _ (by rw [HD.out.2]; exact Nat.le_refl _)] at this; exact this)
      go_wp2_with fail
      go_ret
      exact ⟨_, rfl, HO.out.sl, hbw.out⟩

/-- 'copy(dst[:], src)' of no more than fits, onto the head of a block. -/
theorem run_copy_sl {P : Program} {w : World} {dT sT ty elem t : TypeId} (hu : P.underlying dT = some (.slice elem)) (hsz : (P.info? elem).map (·.size) = some 1)
    {go dl dc n c Bd : Nat} {A : Option Addr} {xs cs : List Value} (hb : Blk w go t xs) (hsl : Sl w Bd 1 A n cs) (hn : n ≤ dl) (hd : dl ≤ xs.length) (h1 : ∀ v ∈ cs, v.oneCell' = true) :
    ∃ w', (Builtin.copy_ #[dT, sT] ty #[.slice (some ⟨go, 0, none⟩) dl dc, .slice A n c]).run P w = .ok (goInt n) w' ∧ Blk w' go t (cs ++ xs.drop n) ∧ w.grownBy w' (some go) := by
  have hl : cs.length = n := hsl.len
  rcases Nat.eq_zero_or_pos n with h0 | h0
  · subst h0
    have : cs = [] := List.eq_nil_of_length_eq_zero hl
    subst this
    exact ⟨w, run_copy_none (P := P) w dT sT ty elem _ A dl dc 0 c hu hsz (by simp), by simpa using hb, World.grownBy.refl w _⟩
  · obtain ⟨b, off, rfl, _, hc⟩ := hsl.2 h0
    have hr := run_copy_row (P := P) w dT sT ty elem go 0 dl dc ⟨b, off, none⟩ n c xs.toArray t cs hu hsz hb (by rw [hl]; exact (Nat.min_eq_left hn).symm) (fun j v hv => by rw [Addr.add_lit]; exact hc j v hv) (by simp; omega) h1
    rw [hl] at hr
    refine ⟨_, hr, ?_, ?_⟩
    · have := blk_setRow (xs := xs.toArray.toList.take 0 ++ cs ++ xs.toArray.toList.drop (0 + n)) hb
      simpa using this
    · exact ⟨rfl, rfl, rfl, by simp, fun k _ hk => setRow_other w go k _ (fun e => hk (by simp [e]))⟩

def padB (key : List UInt8) : List UInt8 := (if 64 < key.length then sha key else key) ++ List.replicate (64 - (if 64 < key.length then sha key else key).length) 0
theorem padB_length (key : List UInt8) : (padB key).length = 64 := by
  unfold padB
  have := sha_length key
  split <;> simp <;> omega
theorem pad_of (k : List UInt8) (h : k.length ≤ 64) : k.map B ++ (List.replicate 64 (B 0)).drop k.length = (k ++ List.replicate (64 - k.length) 0).map B := by
  rw [List.map_append, List.drop_replicate, List.map_replicate]
theorem Pad.padB (key : List UInt8) : Pad ((padB key).map B) (padB key) := ⟨rfl, padB_length key⟩

set_option maxRecDepth 100000 in
set_option maxHeartbeats 1000000 in
theorem fill_any (A : Option Addr) (n c : Nat) (key : List UInt8) {xs : List Value} (hx : Pad xs (padB key)) (w : World) (hs : Sl w w.heap.size 1 A n (key.map B)) (hc : n ≤ c) (hn : n ≤ 1099511627776) (ht : Tabs w) :
    Calls Tryd.prog 57 #[.slice A n c] w fun e w' => e = .returned (.agg xs.toArray) ∧ Below w.heap.size w w' := by
  have HS := Lib.hid hs; have HT := Lib.hid ht; have HD := Lib.hid hx
  have HB := Lib.hid (Below.refl w.heap.size w)
  have HL := Lib.hid (show key.length = n by have := hs.len; simpa using this)
  have hr := row_pad
  have HR := Lib.hid hr
  clear hs ht hx hr
  have HG := Lib.hid (Nat.le_refl w.heap.size)
  by_cases h64 : 64 < n
  · obtain ⟨ys, hys⟩ : ∃ ys, ys = (sha key).map B := ⟨_, rfl⟩
    have HY := Lib.hid (show Dig ys (sha key) by rw [hys]; exact Dig.sha key)
    have HP := Lib.hid (show padB key = sha key ++ List.replicate (64 - (sha key).length) 0 by unfold padB; rw [if_pos (by rw [HL.out]; exact h64)])
    clear hys
    go_enter Tryd.func57, Tryd.ntmps57
    go_wp2_with (first | (with_reducible refine wpl_alloc (o := ⟨some 2, _, _, _, _, _⟩) rfl rfl zero_pad ?_))
    intro w2_ hb2_ hb_ hsz2_
    have HX_ := Lib.hid (at_mk hb2_ len_pad)
    clear hb2_ hsz2_
    have HB_ := Lib.hid (HB.out.grow' hb_)
    clear HB
    have HB := HB_
    clear HB_
    have HS_ := Lib.hid (HS.out.grow hb_)
    clear HS
    have HS := HS_
    clear HS_
    have HT_ := Lib.hid (HT.out.grow hb_)
    clear HT
    have HT := HT_
    clear HT_
    have HX := HX_
    clear hb_ HX_
    try clear w_
    rename World => w_
    go_wp2_with fail
    have ha := alloc_new w_ #[.slice A n c] 22
    have HP1 := Lib.hid (show Parts _ _ (some ⟨w_.heap.size, 0, none⟩) 1 [(.slice A n c, key)] from parts_blk ha.1 rfl (by intro p hp; simp only [List.mem_cons, List.not_mem_nil, or_false] at hp; subst hp; exact part_mk (HS.out.grow ha.2.1) hc))
    have HT1 := Lib.hid (HT.out.grow ha.2.1)
    have HX1 := Lib.hid (HX.out.grow ha.2.1)
    have HB1 := Lib.hid (HB.out.grow' ha.2.1)
    clear ha HS HT HX HB
    refine (dsum_any _ _ _ _ HY.out (by simp [cat]) _ HP1.out (by omega) (by rw [HL.out]; omega) HT1.out).mono ?_
    rintro e w2 ⟨rfl, hb_⟩
    have HX := Lib.hid (HX1.out.grow hb_)
    have HB := Lib.hid (HB1.out.grow' hb_)
    clear hb_ HX1 HB1 HT1 HP1
    obtain ⟨w_, rfl⟩ : ∃ w_ : World, w_ = w2 := ⟨_, rfl⟩
    go_wp2_with (first | (with_reducible refine wpl_alloc (o := ⟨some 3, _, _, _, _, _⟩) rfl rfl zero_id ?_))
    intro w1_ hb1_ hbw1_ hsz1_
    have HB1_ := Lib.hid (at_mk hb1_ len_id)
    have HBW1_ := Lib.hid hbw1_
    have HZ1_ := Lib.hid hsz1_
    clear hb1_ hbw1_ hsz1_
    go_wp2_with (first | (with_reducible refine wpl_storeb (o := ⟨none, .store _ _ _, _, _, _, _⟩) rfl rfl row_id HB1_.out.blk rfl rfl HB1_.out.len HY.out.len HY.out.one ?_))
    intro w2_ hb2_ hg2_ hsz2_
    have hb_ := var_grow HBW1_.out HZ1_.out hg2_
    have HX_ := Lib.hid (at_mk hb2_ HY.out.len)
    clear hb2_ hg2_ hsz2_ HB1_ HBW1_ HZ1_
    have HB_ := Lib.hid (HB.out.grow' hb_)
    clear HB
    have HB := HB_
    clear HB_
    have HX_ := Lib.hid (HX.out.grow hb_)
    clear HX
    have HX := HX_
    clear HX_
    generalize hg_ : w_.heap.size = g at HX_ ⊢
    clear hg_
    have HV := HX_
    clear hb_ HX_
    clear w1_
    try clear w_
    rename World => w_
    have HSV := Lib.hid HV.out.sl
    go_wp2_with fail
    obtain ⟨w5, hr5, hb5, hg5⟩ := run_copy_sl (P := Tryd.prog) (dT := 22) (sT := 22) (ty := 3) (dc := 64) (c := 32) el_u8.ht (by kernel_rfl) HX.out.blk HSV.out (show _ ≤ 64 by omega) (Nat.le_of_eq HX.out.len.symm) HY.out.one
    · rw [hr5]
      clear hr5
      have HX5 := Lib.hid (show At w5 w.heap.size 83 64 xs by
        refine at_mk ?_ HD.out.len
        have e := pad_of (sha key) (by rw [sha_length]; omega)
        rw [sha_length, ← HY.out.1] at e
        rw [HD.out.1, HP.out, sha_length, ← e]; exact hb5)
      have HB5 := Lib.hid (put_below HB.out HG.out hg5)
      clear hb5 hg5 HB HX HSV HV
      have HB := HB5; have HX := HX5; clear HB5 HX5
      clear w_
      obtain ⟨w_, rfl⟩ : ∃ w_ : World, w_ = w5 := ⟨_, rfl⟩
      go_wp2_with (first | (with_reducible refine wpl_loadb (o := ⟨some 14, _, _, _, _, _⟩) rfl rfl row_pad HX.out.blk rfl HX.out.len ?_) | (with_reducible refine wpl_storeb (o := ⟨none, .store _ _ _, _, _, _, _⟩) rfl rfl row_pad HX.out.blk rfl rfl HX.out.len HD.out.len HD.out.one ?_))
      intro w2_ hb2_ hg2_ hsz2_
      have HB_ := Lib.hid (put_below HB.out HG.out hg2_)
      have HX_ := Lib.hid (at_mk hb2_ HD.out.len)
      clear hb2_ hg2_ hsz2_ HB HX
      have HB := HB_
      have HX := HX_
      clear HB_ HX_
      try clear w_
      rename World => w_
      go_wp2_with fail
      exact ret_cell rfl HR.out HX.out.blk rfl HX.out.len rfl ⟨rfl, HB.out⟩
  · have HP := Lib.hid (show padB key = key ++ List.replicate (64 - key.length) 0 by unfold padB; rw [if_neg (by rw [HL.out]; exact h64)])
    have HA := Lib.hid (all_bytes key)
    go_enter Tryd.func57, Tryd.ntmps57
    go_wp2_with (first | (with_reducible refine wpl_alloc (o := ⟨some 2, _, _, _, _, _⟩) rfl rfl zero_pad ?_))
    intro w2_ hb2_ hb_ hsz2_
    have HX_ := Lib.hid (at_mk hb2_ len_pad)
    clear hb2_ hsz2_
    have HB_ := Lib.hid (HB.out.grow' hb_)
    clear HB
    have HB := HB_
    clear HB_
    have HS_ := Lib.hid (HS.out.grow hb_)
    clear HS
    have HS := HS_
    clear HS_
    have HT_ := Lib.hid (HT.out.grow hb_)
    clear HT
    have HT := HT_
    clear HT_
    have HX := HX_
    clear hb_ HX_
    try clear w_
    rename World => w_
    go_wp2_with fail
    obtain ⟨w5, hr5, hb5, hg5⟩ := run_copy_sl (P := Tryd.prog) (dT := 22) (sT := 22) (ty := 3) (dc := 64) (c := c) el_u8.ht (by kernel_rfl) HX.out.blk HS.out (show _ ≤ 64 by omega) (Nat.le_of_eq HX.out.len.symm) HA.out
    · rw [hr5]
      clear hr5
      have HX5 := Lib.hid (show At w5 w.heap.size 83 64 xs by
        refine at_mk ?_ HD.out.len
        have e := pad_of key (by rw [HL.out]; omega)
        rw [HL.out] at e
        rw [HD.out.1, HP.out, HL.out, ← e]; exact hb5)
      have HB5 := Lib.hid (put_below HB.out HG.out hg5)
      clear hb5 hg5 HB HX HS HT
      have HB := HB5; have HX := HX5; clear HB5 HX5
      clear w_
      obtain ⟨w_, rfl⟩ : ∃ w_ : World, w_ = w5 := ⟨_, rfl⟩
      go_wp2_with (first | (with_reducible refine wpl_loadb (o := ⟨some 14, _, _, _, _, _⟩) rfl rfl row_pad HX.out.blk rfl HX.out.len ?_) | (with_reducible refine wpl_storeb (o := ⟨none, .store _ _ _, _, _, _, _⟩) rfl rfl row_pad HX.out.blk rfl rfl HX.out.len HD.out.len HD.out.one ?_))
      intro w2_ hb2_ hg2_ hsz2_
      have HB_ := Lib.hid (put_below HB.out HG.out hg2_)
      have HX_ := Lib.hid (at_mk hb2_ HD.out.len)
      clear hb2_ hg2_ hsz2_ HB HX
      have HB := HB_
      have HX := HX_
      clear HB_ HX_
      try clear w_
      rename World => w_
      go_wp2_with fail
      exact ret_cell rfl HR.out HX.out.blk rfl HX.out.len rfl ⟨rfl, HB.out⟩
end Go.Proofs.YtlondennhhffdaaDoor

/- Contract of sha.Under. -/
namespace Go.Proofs.YtlondennhhffdaaDoor
open Go.RowKit Go.Shelf
set_option linter.unusedVariables false

def longB (bs : List UInt8) : List UInt8 := beBytes bs.length 4 ++ bs
def underB (m : UInt8) (ls : List (List UInt8)) : List UInt8 := m :: ls.flatMap longB
theorem underB_snoc (m : UInt8) (ls : List (List UInt8)) (x : List UInt8) : underB m (ls ++ [x]) = underB m ls ++ (beBytes x.length 4 ++ x) := by
  unfold underB; rw [List.flatMap_append]; simp [longB]
theorem beBytes_len (v n : Nat) : (beBytes v n).length = n := by unfold beBytes; simp
theorem underB_le (m : UInt8) (ls : List (List UInt8)) (N : Nat) (h : ∀ l ∈ ls, l.length ≤ N) : (underB m ls).length ≤ 1 + ls.length * (4 + N) := by
  unfold underB
  induction ls with
  | nil => simp
  | cons x xs ih =>
    have h1 := h x (by simp)
    have h2 := ih fun l hl => h l (by simp [hl])
    simp only [List.flatMap_cons, List.length_cons, List.length_append, longB, beBytes_len, Nat.succ_mul] at *
    omega
theorem info_su8 : (Tryd.prog.info? 22).map (fun i => (i.zero, i.size, i.bytes)) = some (some (.slice none 0 0), 1, 24) := by kernel_rfl
theorem el_su8 : ElemT Tryd.prog 37 22 1 24 := elemT Tryd.underlying37 info_su8 rfl (by omega)

/-- A part that no append onto the row 'row' turns. -/
def PartIn (w : World) (row : Option Nat) (p : Value × List UInt8) : Prop := ∃ A c, p.1 = .slice A p.2.length c ∧ p.2.length ≤ c ∧ Sl w w.heap.size 1 A p.2.length (p.2.map B) ∧ (0 < p.2.length → A.map Addr.block ≠ row)
theorem PartIn.grow {w w2 : World} {row : Option Nat} {p : Value × List UInt8} (h : PartIn w row p) (k : Grow w w2) : PartIn w2 row p := by
  obtain ⟨A, c, h1, h2, h3, h4⟩ := h
  exact ⟨A, c, h1, h2, h3.grow k, h4⟩
theorem PartIn.step {w w2 : World} {row row' : Option Nat} {p : Value × List UInt8} (h : PartIn w row p) (hg : w.grownBy w2 row) (hA : row' = row ∨ ∃ j, row' = some (w.heap.size + j)) : PartIn w2 row' p := by
  obtain ⟨A, c, h1, h2, h3, h4⟩ := h
  refine ⟨A, c, h1, h2, ⟨h3.1, fun hn => ?_⟩, fun hn => ?_⟩
  · obtain ⟨b, off, e, hb, hc⟩ := h3.2 hn
    refine ⟨b, off, e, Nat.lt_of_lt_of_le hb hg.size, fun j u hu => hg.cell (hc j u hu) ?_⟩
    have := h4 hn
    rw [e] at this
    exact this
  · obtain ⟨b, off, e, hb, hc⟩ := h3.2 hn
    rcases hA with hA | ⟨j, hA⟩
    · rw [hA]; exact h4 hn
    · rw [hA, e]
      intro hh
      simp only [Option.map_some, Option.some.injEq] at hh
      omega
theorem PartIn.ok {w : World} {row : Option Nat} {p : Value × List UInt8} (h : PartIn w row p) : PartOK w w.heap.size p := by
  obtain ⟨A, c, h1, h2, h3, h4⟩ := h
  exact ⟨A, c, h1, h2, h3⟩
theorem PartIn.of {w : World} {row : Option Nat} {Bd : Nat} {p : Value × List UInt8} (h : PartOK w Bd p) (hB : Bd ≤ w.heap.size) (hr : ∀ g, row = some g → Bd ≤ g) : PartIn w row p := by
  obtain ⟨A, c, h1, h2, h3⟩ := h
  refine ⟨A, c, h1, h2, h3.more hB, fun hn hh => ?_⟩
  obtain ⟨b, off, e, hb, _⟩ := h3.2 hn
  rw [e] at hh
  have := hr b hh.symm
  omega
theorem PartIn.own {w : World} {row : Option Nat} {base n c : Nat} {A : Option Addr} {bs : List UInt8} (h : w.ownsRow base 5 1 (.slice A n c) n (bs.map B)) (hc : n ≤ c) (hr : ∀ g, row = some g → g < base) : PartIn w row (.slice A n c, bs) := by
  have e : bs.length = n := by have := h.1; simpa using this
  refine ⟨A, c, by rw [e], by rw [e]; exact hc, by rw [e]; exact Sl.of_own h, fun _ hh => ?_⟩
  have := own_from h
  rcases A with _ | a
  · simp only [Option.map_none] at hh
    have h0 := (Sl.of_own h).2
    rename_i hpos
    obtain ⟨b, off, e2, _⟩ := h0 (by simp only at hpos; omega)
    cases e2
  · have h1 := this a.block rfl
    have h2 := hr a.block hh.symm
    omega

def UInv (w wr : World) (A : Option Addr) (c k : Nat) (qs ps : List (Value × List UInt8)) (m : UInt8) : Prop :=
  wr.ownsRow (w.heap.size + 1) 22 1 (.slice A (2 * k + 1) c) (2 * k + 1) (qs.map Prod.fst) ∧ (∀ q ∈ qs, PartIn wr (A.map Addr.block) q) ∧ cat qs = underB m ((ps.take k).map Prod.snd) ∧ Below w.heap.size w wr ∧ At wr w.heap.size 26 32 (List.replicate 32 (B 0))
theorem u_step {w wr w2 w4 : World} {A A4 : Option Addr} {c c4 k g4 : Nat} {qs ps : List (Value × List UInt8)} {m : UInt8} {p : Value × List UInt8} (h : UInv w wr A c k qs ps m) (hp : PartOK wr w.heap.size p) (hk : ps[k]? = some p)
    (hb2 : Below wr.heap.size wr w2) (ho4 : w2.ownsRow wr.heap.size 5 1 (.slice (some ⟨g4, 0, none⟩) 4 4) 4 ((beBytes p.2.length 4).map B))
    (ho : w4.ownsRow (w.heap.size + 1) 22 1 (.slice A4 (2 * k + 1 + 2) c4) (2 * k + 1 + 2) (qs.map Prod.fst ++ [.slice (some ⟨g4, 0, none⟩) 4 4, p.1]))
    (hg : w2.grownBy w4 (A.map Addr.block)) (hA : A4.map Addr.block = A.map Addr.block ∨ A4.map Addr.block = some (w2.heap.size + 1)) :
    UInv w w4 A4 c4 (k + 1) (qs ++ [(.slice (some ⟨g4, 0, none⟩) 4 4, beBytes p.2.length 4), p]) ps m := by
  obtain ⟨h1, h2, h3, h4, h5⟩ := h
  have hA' : A4.map Addr.block = A.map Addr.block ∨ ∃ j, A4.map Addr.block = some (w2.heap.size + j) := hA.imp_right fun e => ⟨1, e⟩
  have hfrom := own_from h1
  have hlt : ∀ g, A.map Addr.block = some g → g < wr.heap.size := fun g hg => (h1.lt g (by cases A <;> simp_all [Value.ownBlock])).2
  have e : 2 * (k + 1) + 1 = 2 * k + 1 + 2 := by omega
  refine ⟨?_, ?_, ?_, ?_, ?_⟩
  · rw [e, List.map_append]; exact ho
  · intro q hq
    simp only [List.mem_append, List.mem_cons, List.not_mem_nil, or_false] at hq
    rcases hq with hq | rfl | rfl
    · exact ((h2 q hq).grow hb2).step hg hA'
    · exact (PartIn.own ho4 (Nat.le_refl _) hlt).step hg hA'
    · exact ((PartIn.of hp h4.size (fun g hg => by have := hfrom g hg; omega)).grow hb2).step hg hA'
  · have e2 : cat (qs ++ [(.slice (some ⟨g4, 0, none⟩) 4 4, beBytes p.2.length 4), p]) = cat qs ++ (beBytes p.2.length 4 ++ p.2) := by unfold cat; simp
    rw [e2, h3, List.take_add_one, hk, Option.toList_some, List.map_append, List.map_cons, List.map_nil, underB_snoc]
  · exact (h4.trans (hb2.mono h4.size)).grown hg (Nat.le_trans h4.size hb2.size) fun g hg => by have := hfrom g hg; omega
  · refine ⟨(h5.1.grow hb2).grown hg fun hh => ?_, h5.2⟩
    have := hfrom _ hh.symm
    omega
theorem u_end {w wr : World} {A : Option Addr} {c n : Nat} {qs ps : List (Value × List UInt8)} {m : UInt8} (h : UInv w wr A c n qs ps m) (hn : ps.length = n) : Parts wr wr.heap.size A (2 * n + 1) qs ∧ cat qs = underB m (ps.map Prod.snd) := by
  obtain ⟨h1, h2, h3, _, _⟩ := h
  refine ⟨parts_mk (Sl.of_own h1) fun q hq => (h2 q hq).ok, ?_⟩
  rw [h3, List.take_of_length_le (by omega)]
theorem u_start {w w1 : World} {m : UInt8} {ps : List (Value × List UInt8)} (h : Below w.heap.size w w1) (hz : w.heap.size + 1 ≤ w1.heap.size) (hr : At w1 w.heap.size 26 32 (List.replicate 32 (B 0))) :
    UInv w ((w1.alloc (.cells #[B m] 5)).alloc (.cells #[.slice (some ⟨w1.heap.size, 0, none⟩) 1 1] 22)) (some ⟨w1.heap.size + 1, 0, none⟩) 1 0 [(.slice (some ⟨w1.heap.size, 0, none⟩) 1 1, [m])] ps m := by
  have h1 := alloc_new w1 #[B m] 5
  have h2 := alloc_new (w1.alloc (.cells #[B m] 5)) #[.slice (some ⟨w1.heap.size, 0, none⟩) 1 1] 22
  refine ⟨?_, ?_, ?_, ?_, ?_⟩
  · have := World.ownsRow_lit (base := w.heap.size + 1) (e := 22) (size := 1) (w1.alloc (.cells #[B m] 5)) #[.slice (some ⟨w1.heap.size, 0, none⟩) 1 1] 1 (by rw [h1.2.2]; omega) (by simp [maxLen]) rfl
    rw [h1.2.2] at this
    exact this
  · intro q hq
    simp only [List.mem_cons, List.not_mem_nil, or_false] at hq
    subst hq
    refine PartIn.grow ⟨_, _, rfl, Nat.le_refl _, h1.1.sl rfl, fun _ hh => ?_⟩ h2.2.1
    simp only [Option.map_some, Option.some.injEq] at hh
    omega
  · unfold cat; simp [underB]
  · exact h.grow' (Grow.trans _ _ _ h1.2.1 h2.2.1)
  · exact hr.grow (Grow.trans _ _ _ h1.2.1 h2.2.1)
attribute [irreducible] underB longB

set_option maxRecDepth 100000 in
set_option maxHeartbeats 1000000 in
theorem under_any (m : UInt8) (A : Option Addr) (n c : Nat) (ps : List (Value × List UInt8)) {xs : List Value} (hx : Dig xs (sha (underB m (ps.map Prod.snd)))) (w : World) (hp : Parts w w.heap.size A n ps) (hn : n ≤ 400000) (hl : ∀ p ∈ ps, p.2.length ≤ 1000000) (ht : Tabs w) :
    Calls Tryd.prog 26 #[B m, .slice A n c] w fun e w' => e = .returned (.agg xs.toArray) ∧ Below w.heap.size w w' := by
  have HT := Lib.hid ht; have HP := Lib.hid hp; have HD := Lib.hid hx; have HL := Lib.hid hl
  have HB := Lib.hid (Below.refl w.heap.size w)
  have HN := Lib.hid hp.len
  clear hp ht hx hl
  show Calls Tryd.prog 26 #[.int .u8 (b8 m), .slice A n c] w _
  go_enter Tryd.func26, Tryd.ntmps26
  go_wp2_with (first | (with_reducible refine wpl_alloc (o := ⟨some 4, _, _, _, _, _⟩) rfl rfl zero_id ?_))
  intro w2_ hb2_ hb_ hsz2_
  have HX_ := Lib.hid (at_mk hb2_ len_id)
  clear hb2_ hsz2_
  have HB_ := Lib.hid (HB.out.grow' hb_)
  clear HB
  have HB := HB_
  clear HB_
  have HR := HX_
  clear hb_ HX_
  try clear w_
  rename World => w_
  have HS := Lib.hid (u_start (m := m) (ps := ps) HB.out (by have := HR.out.lt; omega) HR.out)
  go_wp2_with fail
  go_loopw [5, 13] (fun v i wr => ∃ k : Nat, ∃ A' c' qs, k ≤ n ∧ i = .int .i64 k ∧ v = .slice A' (2 * k + 1) c' ∧ Hid (UInv w wr A' c' k qs ps m)) (fun _ i _ => n - (intOf i).toNat)
  case atStart => exact ⟨0, _, _, _, by omega, rfl, rfl, HS⟩
  case round =>
    obtain ⟨k, A3, c3, qs, hk, rfl, rfl, hinv⟩ := hrel
    clear HS HB HR
    by_cases hlt : k < n
    · obtain ⟨b, off, A2, c2, bs, rfl, hps, hc, hcc, hs⟩ := (HP.out.below hinv.out.2.2.2.1).at_ hlt
      have HPK := Lib.hid (show PartOK _ w.heap.size (.slice A2 bs.length c2, bs) from ⟨A2, c2, rfl, hcc, hs⟩)
      have HPS := Lib.hid hps
      have hbl : bs.length ≤ 1000000 := HL.out _ (List.mem_of_getElem? hps)
      have hb64 : bs.length < 18446744073709551616 := by omega
      clear hps hs hcc
      go_wp2_with fail
      refine (bytes_any bs.length 4 _ hb64 (by omega) (by omega)).mono ?_
      rintro e w2 ⟨g4, rfl, ho4, hb2⟩
      have HO4 := Lib.hid ho4; have HB2 := Lib.hid hb2
      clear ho4 hb2
      have HOA := Lib.hid (own_below hinv.out.1 HB2.out)
      have hbl2 := hbl
      go_wp2_with (at_builtin; refine wpl_app1 rfl rfl el_su8 HOA.out rfl (m := 2) rfl rfl ?_ ?_ ?_ ?_ ?_)
      · exact ⟨rfl, rfl⟩
      · omega
      · omega
      · have h1 := hinv.out.2.2.2.2.lt; have h2 := HB2.out.size; omega
      · intro A4 c4 w4 ho hg hA
        have HI := Lib.hid (u_step hinv.out HPK.out HPS.out HB2.out HO4.out ho hg (hA.imp_right fun ⟨a, h1, h2⟩ => by rw [h1]; exact congrArg some h2))
        clear ho hg hA
        go_wp2_with fail
        go_roundw
        case rel => exact ⟨k + 1, A4, c4, _, by omega, by go_num, by congr 1 <;> omega, HI⟩
        case measure => simp [intOf]; omega
    · obtain rfl : k = n := by omega
      have HE := Lib.hid (u_end hinv.out HN.out)
      have HT2 := Lib.hid (HT.out.below hinv.out.2.2.2.1)
      have HB := Lib.hid hinv.out.2.2.2.1
      have HR := Lib.hid hinv.out.2.2.2.2
      clear HT
      go_wp2_with fail
      refine (dsum_any _ _ _ _ HD.out HE.out.2 _ HE.out.1 (by omega) (Nat.le_trans (underB_le m _ 1000000 (fun l hl => by obtain ⟨p, hp, rfl⟩ := List.mem_map.1 hl; exact HL.out p hp)) (by rw [List.length_map, HN.out]; omega)) HT2.out).mono ?_
      rintro e w5 ⟨rfl, hb_⟩
      have HR5 := Lib.hid (HR.out.grow hb_)
      have HB5 := Lib.hid (HB.out.grow' hb_)
      clear hb_ HR HB HT2 HE hinv
      have HR := HR5; have HB := HB5; clear HR5 HB5
      have HG := Lib.hid (Nat.le_refl w.heap.size)
      go_wp2_with (first | (with_reducible refine wpl_storeb (o := ⟨none, .store _ _ _, _, _, _, _⟩) rfl rfl row_id HR.out.blk rfl rfl HR.out.len HD.out.len HD.out.one ?_))
      intro w2_ hb2_ hg2_ hsz2_
      have HB_ := Lib.hid (put_below HB.out HG.out hg2_)
      have HX_ := Lib.hid (at_mk hb2_ HD.out.len)
      clear hb2_ hg2_ hsz2_ HB HR
      have HB := HB_
      have HR := HX_
      clear HB_ HX_
      try clear w_
      rename World => w_
      go_wp2_with fail
      exact ret_cell rfl row_id HR.out.blk rfl HR.out.len rfl ⟨rfl, HB.out⟩
end Go.Proofs.YtlondennhhffdaaDoor

/- Contract of sha.Hex. -/
import Derived.Test.YtlondennhhffdaaDoorSame
import Derived.Test.YtlondennhhffdaaDoorTail
import Derived.Laws.IdiomStrings
namespace Go.Proofs.YtlondennhhffdaaDoor
open Go.RowKit Go.Shelf
set_option linter.unusedVariables false

def digB (n : Nat) : UInt8 := if n < 10 then UInt8.ofNat (48 + n) else UInt8.ofNat (87 + n)
def hexB (bs : List UInt8) : List UInt8 := bs.flatMap fun x => [digB (x.toNat / 16), digB (x.toNat % 16)]
theorem hexB_length (bs : List UInt8) : (hexB bs).length = 2 * bs.length := by
  unfold hexB
  induction bs with
  | nil => rfl
  | cons x xs ih => simp only [List.flatMap_cons, List.length_append, ih]; simp; omega
theorem hexB_snoc (bs : List UInt8) (k : Nat) (hk : k < bs.length) : hexB (bs.take (k + 1)) = hexB (bs.take k) ++ [digB ((bs[k]?.getD 0).toNat / 16), digB ((bs[k]?.getD 0).toNat % 16)] := by
  unfold hexB
  rw [List.take_add_one, List.flatMap_append, List.getElem?_eq_getElem hk]
  rfl
def digStr : ByteArray := ⟨#[48, 49, 50, 51, 52, 53, 54, 55, 56, 57, 97, 98, 99, 100, 101, 102]⟩
theorem digStr_size : digStr.size = 16 := by decide +kernel
theorem fold_digStr : (⟨#[48, 49, 50, 51, 52, 53, 54, 55, 56, 57, 97, 98, 99, 100, 101, 102]⟩ : ByteArray) = digStr := rfl
theorem digStr_at : ∀ i : Fin 16, (digStr[i.val]?).getD 0 = digB i.val := by decide +kernel
theorem run_index_digits {P : Program} (w : World) (t : TypeId) (k : IntKind) (i : Int) (h : P.underlying t = some .string) (h0 : 0 ≤ i) (h1 : i ≤ 15) :
    (Instr.index t (.string digStr) (.int k i)).run P w = .ok (.int .u8 (b8 (digB i.toNat))) w := by
  have hi : 0 ≤ i ∧ i < (digStr.size : Int) := by rw [digStr_size]; omega
  have h2 : i.toNat < digStr.size := by rw [digStr_size]; omega
  rw [run_index_string w t digStr k i h, dif_pos hi]
  have := digStr_at ⟨i.toNat, by omega⟩
  simp only [ByteArray.getElem?_lt' _ _ h2, Option.getD_some] at this
  rw [this]; rfl
theorem digit_at (i : Nat) (h : i < 16) : (#[48, 49, 50, 51, 52, 53, 54, 55, 56, 57, 97, 98, 99, 100, 101, 102] : Array UInt8)[i]? = some (digB i) := by
  revert h; revert i; decide

attribute [irreducible] hexB digB digStr
attribute [local go_sem high] fold_digStr run_index_digits
set_option maxRecDepth 100000 in
set_option maxHeartbeats 1000000 in
theorem hex_any (bs : List UInt8) (w : World) (hl : bs.length = 32) :
    Calls Tryd.prog 21 #[.agg (bs.map B).toArray] w fun e w' => e = .returned (.string ⟨(hexB bs).toArray⟩) ∧ Below w.heap.size w w' := by
  have hca : ∀ k, k < 32 → (bs.map B)[k]? = some (.int .u8 (b8 (bs[k]?.getD 0))) := fun k hk => by
    rw [List.getElem?_map, List.getElem?_eq_getElem (by omega)]; rfl
  have HSN := Lib.hid (fun k (hk : k < 32) => hexB_snoc bs k (by omega))
  have HALL := Lib.hid (show hexB (bs.take 32) = hexB bs by rw [List.take_of_length_le (by omega)])
  have HLEN := Lib.hid (hexB_length bs)
  have HL := Lib.hid hl
  have HLX := Lib.hid (show (bs.map B).length = 32 by rw [List.length_map]; exact hl)
  obtain ⟨xs, hxs⟩ : ∃ xs, xs = bs.map B := ⟨_, rfl⟩
  rw [← hxs] at hca HLX ⊢
  have HCA := Lib.hid hca; clear hca
  clear hxs hl
  go_enter Tryd.func21, Tryd.ntmps21
  go_wp2_with (first | (with_reducible refine wpl_box (o := ⟨some 1, _, _, _, _, _⟩) rfl rfl rfl ?_))
  intro w1 hb1 hbw1 hsz1
  have HB1 := Lib.hid hb1; clear hb1
  have HBW1 := Lib.hid hbw1; clear hbw1
  have HSZ1 := Lib.hid hsz1; clear hsz1
  generalize hgd : w.heap.size = g at *
  have HG := Lib.hid hgd; clear hgd
  go_wp2_with (first | (with_reducible refine wpl_loadb (o := ⟨some 6, _, _, _, _, _⟩) rfl rfl row_32 HB1.out rfl HLX.out ?_))
  obtain ⟨wo, rfl⟩ : ∃ wo : World, wo = w1 := ⟨_, rfl⟩
  go_wp2_with fail
  go_loopw [3, 7] (fun v i wr => ∃ k : Nat, ∃ A' c', k ≤ 32 ∧ i = .int .i64 k ∧ v = .slice A' (2 * k) c' ∧ Hid (wr.ownsRow (g + 1) 5 1 (.slice A' (2 * k) c') (2 * k) ((hexB (bs.take k)).map B)) ∧ Hid (Below g w wr) ∧ Hid (g + 1 ≤ wr.heap.size)) (fun v i _ => 32 - (intOf i).toNat)
  case atStart => exact ⟨0, none, 0, by omega, rfl, rfl, ⟨by simp [hexB_length], .inl ⟨rfl, rfl⟩⟩, HBW1, by rw [HSZ1.out]; exact Nat.le_refl _⟩
  case round =>
    obtain ⟨k, A2, c2, hk, rfl, rfl, hown, hbw, hsz⟩ := hrel
    by_cases hk32 : k < 32
    · have hidx := fun w => run_index_agg (P := Tryd.prog) (T := 26) (e := 5) (k := k) Tryd.underlying26 HLX.out (by kernel_rfl) (by kernel_rfl) (HCA.out k hk32) w
      have hs := HSN.out k hk32
      generalize bs[k]?.getD 0 = x at *
      have HSK := Lib.hid hs; clear hs
      repeat' (first | (with_reducible refine wp_tail0 (id := 5) 7 (by kernel_rfl) rfl rfl rfl (by kernel_rfl) ?_) | go_values | go_skip | go_guarded | go_step | go_upon | go_back)
      intro w6 hd6
      simp only [List.take_succ_cons, List.take_zero, List.drop_succ_cons, List.drop_zero]
      have HO6 := Lib.hid (hd6.own hown.out)
      have HB6 := Lib.hid (hd6.below hbw.out)
      have HZ6 := Lib.hid (show g + 1 ≤ w6.heap.size by rw [hd6.size]; exact hsz.out)
      clear hd6 hown hbw hsz
      have b0 := b8_range x
      obtain ⟨b1, b2⟩ := b0
      have a0 : 0 ≤ b8 x / 16 := by omega
      have a1 : b8 x / 16 ≤ 15 := by omega
      have a2 : (b8 x / 16).toNat = x.toNat / 16 := by unfold b8; omega
      have a3 : (b8 x % 16).toNat = x.toNat % 16 := by unfold b8; omega
      have a4 : 0 ≤ b8 x % 16 := by omega
      have a5 : b8 x % 16 ≤ 15 := by omega
      have a6 : bits BinOp.and IntKind.u8 (b8 x) 15 = b8 x % 16 := by
        have h : ∀ z : UInt8, bits BinOp.and IntKind.u8 (b8 z) 15 = b8 z % 16 := by
          intro z
          have hz : z = UInt8.ofNat z.toNat := by simp
          have hl := z.toNat_lt
          rw [hz]
          generalize z.toNat = m at *
          have : ∀ m : Fin 256, bits BinOp.and IntKind.u8 (b8 (UInt8.ofNat m.val)) 15 = b8 (UInt8.ofNat m.val) % 16 := by decide +kernel
          exact this ⟨m, hl⟩
        exact h x
      repeat still_step
      refine wpStill_nil ?_
      clear a0 a1 a2 a3 a4 a5 a6 b1 b2
      go_wp2_with (at_builtin; refine wpl_app1 rfl rfl el_u8 HO6.out rfl (m := 2) rfl rfl ?_ ?_ ?_ HZ6.out ?_)
      · simp [Value.oneCell']
      · omega
      · omega
      · intro A7 c7 w7 ho hg _
        have HO7 := Lib.hid ho
        have HB7 := Lib.hid (HB6.out.grown hg (by have := HZ6.out; omega) (fun r hr => by have := own_from HO6.out r (by simpa using hr); omega))
        have HZ7 := Lib.hid (Nat.le_trans HZ6.out hg.size)
        clear ho hg
        go_wp2_with fail
        dsimp only [NormalOnly]
        go_wp2_with fail
        go_roundw
        case rel =>
          refine ⟨k + 1, A7, c7, by omega, by go_num, rfl, ?_, HB7, HZ7⟩
          show w7.ownsRow _ _ _ _ _ _
          rw [HSK.out, List.map_append]
          exact HO7.out
        case measure => simp [intOf]; omega
    · obtain rfl : k = 32 := by omega
      rw [HALL.out] at hown
      obtain ⟨gs, rfl, hg1, hg2, hcs⟩ := own_form hown.out (by omega)
      have hconv : ∀ w', (∀ j, w'.cell? j = wr.cell? j) → (convert 22 9 (.slice (some ⟨gs, 0, none⟩) 64 c2)).run Tryd.prog w' = .ok (.string ⟨(hexB bs).toArray⟩) w' := by
        intro w' hw'
        have hln : (hexB bs).length = 64 := by rw [HLEN.out, HL.out]
        have h := run_convert_bytes_back (P := Tryd.prog) w' 22 9 5 ⟨gs, 0, none⟩ c2 (hexB bs) Tryd.underlying22 (by kernel_rfl) (by kernel_rfl) (fun j hj => by
          have h1 := hown.out.cellAt j (by omega)
          have e : (Addr.add ⟨gs, 0, none⟩ j) = ⟨gs, j, none⟩ := by simp [Addr.add]; omega
          rw [e, hw', h1, List.getElem?_map, List.getElem?_eq_getElem hj]
          rfl)
        rw [hln] at h
        exact h
      have hconv2 := hconv wr (fun _ => rfl)
      clear hconv
      rw [show 2 * 32 = 64 from rfl]
      go_wp2_with fail
      go_ret
      exact ⟨rfl, by rw [HG.out]; exact hbw.out⟩
end Go.Proofs.YtlondennhhffdaaDoor

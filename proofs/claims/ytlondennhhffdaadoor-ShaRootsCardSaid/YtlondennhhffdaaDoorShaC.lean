/- Contracts of slices.Grow, slices.Concat at []byte. -/
import Derived.Test.YtlondennhhffdaaDoorShaB
namespace Go.Proofs.YtlondennhhffdaaDoor
open Go.RowKit
set_option linter.unusedVariables false

/-- 'append(s[:0], make([]T, n)...)' on nil. -/
theorem run_append_zeros {P : Program} (w : World) (t ti ty e : TypeId) (i : TypeInfo) (z : Value) (ht : P.underlying t = some (.slice e)) (hti : P.underlying ti = some (.int .i64)) (hi : P.info? e = some i) (hz : i.zero = some z)
    (hs : i.size = 1) (hzs : z.cells.size = 1) (n : Nat) (h0 : 0 < n) (hb : n * i.bytes ≤ 140737488355328) (hn : n ≤ 140737488355328) :
    (Builtin.append_ #[t, ti] ty #[.slice none 0 0, .int .i64 (n : Int)]).run P w = .ok (.slice (some ⟨w.heap.size, 0, none⟩) n (grownCap w n 0 e)) (w.drew.alloc (.cells (Builtin.zeroCells z.cells n ++ Builtin.zeroCells z.cells (grownCap w n 0 e - n)) e)) := by
  have h1 : IntKind.i64.wrap (n : Int) = n := IntWalk.i64_in _ (by omega)
  have h2 : ¬ ((n : Int) < 0) := by omega
  have h3 : ¬ (281474976710656 < (n : Int) * (i.bytes : Int)) := by
    have : ((n * i.bytes : Nat) : Int) ≤ 140737488355328 := by omega
    rw [Int.natCast_mul] at this
    omega
  have h4 : ¬ (9223372036854775807 < (n : Int)) := by omega
  have h5 : n ≠ 0 := by omega
  have h6 : ¬ (281474976710656 < Builtin.nextslicecap n 0 * i.bytes) := by rw [nextslicecap_zero h0]; omega
  simp [Builtin.append_, run_underlying ht, run_underlying hti, sizeOf, typeInfo, zeroValue, hi, hz, hs, asInt, asIntOf, h1, h2, h3, h4, h5, h6, Question.forced, run_firstCells_none, newRow, grownCap]

theorem wpl_zeros {P : Program} {w : World} {ops : Array Oper} {rest : List Oper} {o : Oper} {a : Act} {Q : Exit → Act → World → Prop} (hgd : o.guard = none) {s x : Operand} {t ti : TypeId}
    (ho : o.op = .call { callee := .builtin .append, args := #[s, x], argTypes := #[t, ti] }) (hti : P.underlying ti = some (.int .i64))
    {e : TypeId} {bytes : Nat} (HE : ElemT P t e 1 bytes) (hs : a.eval s = .slice none 0 0) {n : Nat} (hx : a.eval x = .int .i64 (n : Int)) (h0 : 0 < n) (hb : n * bytes ≤ 140737488355328) (hn : n ≤ 140737488355328)
    (h : ∀ c w', w'.ownsRow w.heap.size e 1 (.slice (some ⟨w.heap.size, 0, none⟩) 0 c) 0 [] → n ≤ c → Below w.heap.size w w' → wpList P ops Q rest (a.put o.dst (.slice (some ⟨w.heap.size, 0, none⟩) n c)) w') : wpList P ops Q (o :: rest) a w := by
  refine wpList_plain hgd fun K hK => ?_
  obtain ⟨i, z, hi, hz, hsz, hby, hzs, _⟩ := HE.hi
  have hrun := run_append_zeros (P := P) w t ti o.type e i z HE.ht hti hi hz hsz hzs n h0 (by rw [hby]; exact hb) hn
  unfold Oper.wp execOp
  simp only [ho, resolve, invoke, builtin, Sem.run_bind, Sem.run_pure, Result.andThen_ok, List.map_toArray, List.map_cons, List.map_nil, hs, hx, hrun]
  have hge := grownCap_ge w n 0 e
  refine hK _ _ (h _ _ ?_ hge ?_)
  · refine World.ownsRow_made w.drew _ _ (Nat.le_refl _) (grownCap_le_maxLen w n 0 e (by simp only [maxLen]; omega)) ?_
    simp [Builtin.zeroCells, hzs]; omega
  · exact (Below.drew (Below.refl _ _)).alloc (Nat.le_refl _) _

theorem grow_any (n : Nat) (w : World) (hn : n ≤ 140737488355328) :
    Calls Tryd.prog 67 #[.slice none 0 0, .int .i64 n] w fun e w' => ∃ A c, e = .returned (.slice A 0 c) ∧ w'.ownsRow w.heap.size 5 1 (.slice A 0 c) 0 [] ∧ Below w.heap.size w w' := by
  by_cases h0 : 0 < n
  · go_enter Tryd.func67, Tryd.ntmps67
    go_wp2_with (at_builtin; refine wpl_zeros rfl rfl Tryd.underlying3 el_u8 rfl rfl h0 ?_ hn ?_)
    · omega
    · intro c w1 hown hc hb
      have HO := Lib.hid hown; clear hown
      have HB := Lib.hid hb; clear hb
      go_wp2_with fail
      go_ret
      exact ⟨_, _, rfl, HO.out, HB.out⟩
  · obtain rfl : n = 0 := by omega
    go_enter Tryd.func67, Tryd.ntmps67
    go_wp2_with fail
    go_ret
    exact ⟨none, 0, rfl, World.ownsRow_nil _ _ _ _, Below.refl _ _⟩

/-- A slice of slices of bytes. -/
def Parts (w : World) (Bd : Nat) (A : Option Addr) (n : Nat) (ps : List (Value × List UInt8)) : Prop :=
  Sl w Bd 1 A n (ps.map Prod.fst) ∧ ∀ p ∈ ps, ∃ A c, p.1 = .slice A p.2.length c ∧ p.2.length ≤ c ∧ Sl w Bd 1 A p.2.length (p.2.map B)

theorem Parts.below {w w' : World} {Bd : Nat} {A : Option Addr} {n : Nat} {ps : List (Value × List UInt8)} (h : Parts w Bd A n ps) (hb : Below Bd w w') : Parts w' Bd A n ps :=
  ⟨h.1.below hb, fun p hp => let ⟨A, c, e, hc, hs⟩ := h.2 p hp; ⟨A, c, e, hc, hs.below hb⟩⟩
theorem Parts.more {w : World} {Bd B' : Nat} {A : Option Addr} {n : Nat} {ps : List (Value × List UInt8)} (h : Parts w Bd A n ps) (hB : Bd ≤ B') : Parts w B' A n ps :=
  ⟨h.1.more hB, fun p hp => let ⟨A, c, e, hc, hs⟩ := h.2 p hp; ⟨A, c, e, hc, hs.more hB⟩⟩
theorem Parts.len {w : World} {Bd : Nat} {A : Option Addr} {n : Nat} {ps : List (Value × List UInt8)} (h : Parts w Bd A n ps) : ps.length = n := by
  have := h.1.len; simpa using this
theorem Parts.at_ {w : World} {Bd : Nat} {A : Option Addr} {n : Nat} {ps : List (Value × List UInt8)} (h : Parts w Bd A n ps) {k : Nat} (hk : k < n) :
    ∃ b off A2 c2 bs, A = some ⟨b, off, none⟩ ∧ ps[k]? = some (.slice A2 bs.length c2, bs) ∧ w.cell? ⟨b, off + k, none⟩ = some (.slice A2 bs.length c2) ∧ bs.length ≤ c2 ∧ Sl w Bd 1 A2 bs.length (bs.map B) := by
  obtain ⟨b, off, u, e, hb, hu, hc⟩ := h.1.at_ hk
  rw [List.getElem?_map] at hu
  obtain ⟨p, h1, rfl⟩ := Option.map_eq_some_iff.1 hu
  obtain ⟨A2, c2, he, hcc, hs⟩ := h.2 p (List.mem_of_getElem? h1)
  exact ⟨b, off, A2, c2, p.2, e, by rw [h1, ← he], by rw [hc, he], hcc, hs⟩

def cat (ps : List (Value × List UInt8)) : List UInt8 := (ps.map Prod.snd).flatten
theorem cat_take (ps : List (Value × List UInt8)) (k : Nat) (p : Value × List UInt8) (h : ps[k]? = some p) : cat (ps.take (k + 1)) = cat (ps.take k) ++ p.2 := by
  unfold cat
  rw [List.take_add_one, h]
  simp
theorem cat_le (ps : List (Value × List UInt8)) (k : Nat) : (cat (ps.take k)).length ≤ (cat ps).length := by
  unfold cat
  conv => rhs; rw [← List.take_append_drop k ps]
  simp only [List.map_append, List.flatten_append, List.length_append]
  omega
attribute [irreducible] cat
theorem bytes_one (bs : List UInt8) : ∀ u ∈ bs.map B, u.oneCell' = true := fun u hu => by obtain ⟨x, _, rfl⟩ := List.mem_map.1 hu; rfl

theorem concat_any (A : Option Addr) (n c : Nat) (ps : List (Value × List UInt8)) (w : World) (hp : Parts w w.heap.size A n ps) (hn : n ≤ 1000000) (hl : (cat ps).length ≤ 1099511627776) :
    Calls Tryd.prog 47 #[.slice A n c] w fun e w' => ∃ A' c', e = .returned (.slice A' (cat ps).length c') ∧ w'.ownsRow w.heap.size 5 1 (.slice A' (cat ps).length c') (cat ps).length ((cat ps).map B) ∧ Below w.heap.size w w' := by
  have HP := Lib.hid hp; clear hp
  generalize hL : (cat ps).length = L at *
  have HL := Lib.hid hL; clear hL
  go_enter Tryd.func47, Tryd.ntmps47
  go_wp2_with fail
  go_loop [3, 11] (fun s i => ∃ k : Nat, k ≤ n ∧ i = .int .i64 k ∧ s = .int .i64 (cat (ps.take k)).length) (fun _ i => n - (intOf i).toNat)
  case atStart => exact ⟨0, by omega, rfl, by simp [cat]⟩
  case round =>
    obtain ⟨k, hk, rfl, rfl⟩ := hrel
    by_cases hlt : k < n
    · obtain ⟨b, off, A2, c2, bs, rfl, hps, hc, hcc, hs⟩ := HP.out.at_ hlt
      have h1 := cat_take ps k _ hps
      have h2 := cat_le ps (k + 1)
      rw [h1, List.length_append, HL.out] at h2
      have h3 : (cat (ps.take (k + 1))).length = (cat (ps.take k)).length + bs.length := by rw [h1, List.length_append]
      have H3 := Lib.hid h3
      have HS := Lib.hid hs
      simp only [] at h2
      clear h1 h3 hps hs
      generalize (cat (ps.take k)).length = m at *
      go_wp2_with fail
      go_round
      case rel => exact ⟨k + 1, by omega, by go_num, by rw [H3.out]; go_num⟩
      case measure => simp [intOf]; omega
    · obtain rfl : k = n := by omega
      have hf : cat (ps.take k) = cat ps := by rw [List.take_of_length_le (by rw [HP.out.len]; omega)]
      rw [hf, HL.out]
      clear hf
      go_wp2_with fail
      refine (grow_any L w (by omega)).mono ?_
      rintro e w1 ⟨A1, c1, rfl, hown, hb⟩
      have HO := Lib.hid hown; clear hown
      have HB := Lib.hid hb; clear hb
      clear hlt hk
      generalize hkn : k = n at *
      clear hkn
      obtain ⟨wo, rfl⟩ : ∃ wo : World, wo = w1 := ⟨_, rfl⟩
      go_wp2_with fail
      go_loopw [6, 27] (fun v i wr => ∃ k : Nat, ∃ A' c', k ≤ n ∧ i = .int .i64 k ∧ v = .slice A' (cat (ps.take k)).length c' ∧ Hid (wr.ownsRow w.heap.size 5 1 (.slice A' (cat (ps.take k)).length c') (cat (ps.take k)).length ((cat (ps.take k)).map B)) ∧ Hid (Below w.heap.size w wr)) (fun _ i _ => n - (intOf i).toNat)
      case atStart => exact ⟨0, A1, c1, by omega, rfl, by simp [cat], (show wo.ownsRow _ _ _ _ _ _ by simpa [cat] using HO.out), HB⟩
      case round =>
        obtain ⟨k, A3, c3, hk, rfl, rfl, hown, hbw⟩ := hrel
        by_cases hlt : k < n
        · obtain ⟨b, off, A2, c2, bs, rfl, hps, hc, hcc, hs⟩ := (HP.out.below hbw.out).at_ hlt
          have h1 := cat_take ps k _ hps
          have h2 := cat_le ps (k + 1)
          rw [h1, List.length_append, HL.out] at h2
          simp only [] at h2
          have H1 := Lib.hid h1
          have HS := Lib.hid hs
          clear h1 hps hs
          generalize hm : (cat (ps.take k)).length = m at *
          have HM := Lib.hid hm; clear hm
          go_wp2_with (at_builtin; refine wpl_apps rfl rfl el_u8 hown.out rfl HS.out rfl (bytes_one bs) ?_ ?_ hbw.out.size ?_)
          · omega
          · omega
          · intro A4 c4 w4 ho hg _
            have hb3 := below_grown hbw.out hg hbw.out.size (own_from hown.out)
            have HO4 := Lib.hid ho
            have HB4 := Lib.hid hb3
            clear ho hb3 hg
            go_wp2_with fail
            go_roundw
            case rel =>
              have e : (cat (ps.take (k + 1))).length = m + bs.length := by rw [H1.out, List.length_append, HM.out]
              refine ⟨k + 1, A4, c4, by omega, by go_num, by rw [e], ?_, HB4⟩
              rw [e, H1.out, List.map_append]
              exact HO4.out
            case measure => simp [intOf]; omega
        · obtain rfl : k = n := by omega
          have hf : cat (ps.take k) = cat ps := by rw [List.take_of_length_le (by rw [HP.out.len]; omega)]
          rw [hf, HL.out] at hown
          have hf2 : (cat (ps.take k)).length = L := by rw [hf, HL.out]
          rw [hf2]
          clear hf hf2
          go_wp2_with fail
          go_ret
          exact ⟨A3, c3, rfl, hown.out, hbw.out⟩
end Go.Proofs.YtlondennhhffdaaDoor

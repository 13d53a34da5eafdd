/- The contract of spend.Mint. Printed by mkmint.py. -/
import Derived.Test.YtnnjjbkdjkjnpaaGreatDoorSpendBackRd31
set_option linter.unusedSimpArgs false
set_option linter.unusedVariables false
set_option maxRecDepth 100000
set_option maxHeartbeats 16000000
namespace Go.Proofs.YtnnjjbkdjkjnpaaGreatDoor
open Go.RowKit Go.Shelf
theorem row_coins8 : RowT Tryz.prog 90 2 := ⟨_, Tryz.underlying90, by kernel_rfl, by kernel_rfl⟩
theorem coins_cl (b : Nat) (s : Int) : Cl 2 [Value.map (some b), .int .u64 s] := ⟨rfl, fun u hu => by simp only [List.mem_cons, List.not_mem_nil, or_false] at hu; rcases hu with rfl | rfl <;> rfl⟩
theorem CoinsAt.moved {w w' : World} {g g3 b3 : Nat} {L : CoinsL} {s : Int} (h : CoinsAt w g3 b3 L s) (hb : Blk w' g 90 [.map (some b3), .int .u64 s]) (hg : w.grownBy w' (some g)) (hne : g ≠ b3) : CoinsAt w' g b3 L s := by
 obtain ⟨q1, ⟨es, clock, q2, q3, q4⟩, q5, q6⟩ := h
 exact ⟨hb, ⟨es, clock, (hg.block b3 (Array.getElem?_eq_some_iff.1 q2).1 (by simpa using hne.symm)).trans q2, q3, q4⟩, q5, hne⟩
end Go.Proofs.YtnnjjbkdjkjnpaaGreatDoor

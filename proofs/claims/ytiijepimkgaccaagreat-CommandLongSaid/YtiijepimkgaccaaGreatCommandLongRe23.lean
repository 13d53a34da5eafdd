/- The contract of tx.Put. Printed by mkput.py. -/
import Derived.Test.YtiijepimkgaccaaGreatCommandLongRe22
set_option linter.unusedSimpArgs false
set_option linter.unusedVariables false
set_option maxRecDepth 100000
set_option maxHeartbeats 16000000
namespace Go.Proofs.YtiijepimkgaccaaGreat
open Go.RowKit Go.Shelf
section
variable {P : Program} {ops : Array Oper} {rest : List Oper} {o : Oper} {a : Act} {w : World} {Q : Exit → Act → World → Prop}
end
theorem zero_tx : (Tryz.prog.info? 26).map (·.zero) = some (some (.agg (txV none 0 0 none 0 0 0 0).toArray)) := by kernel_rfl
theorem len_tx : (txV none 0 0 none 0 0 0 0).length = 4 := rfl
theorem built_tx0 (parts : List (Nat × Value)) : Tryz.prog.built 26 parts = Instr.fill (fun i => (#[(0, 1), (1, 1), (2, 1), (3, 1)] : Array (Nat × Nat))[i]?) (txV none 0 0 none 0 0 0 0).toArray parts := by kernel_rfl
theorem bt_tx0 : Tryz.prog.built 26 [] = some (txV none 0 0 none 0 0 0 0).toArray := by rw [built_tx0]; rfl
theorem insAt_nil {w : World} : InsAt w none 0 0 [] := ⟨Sl.nil, by simp, rfl, Nat.le_refl _⟩
theorem outsAt_nil {w : World} : OutsAt w none 0 0 [] := ⟨Sl.nil, by simp, rfl, Nat.le_refl _⟩
end Go.Proofs.YtiijepimkgaccaaGreat

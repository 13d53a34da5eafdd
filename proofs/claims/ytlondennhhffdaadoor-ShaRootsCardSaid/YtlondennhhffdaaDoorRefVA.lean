/- The regions of seisinref03.Sum, taken out of the translation. -/
import Derived.Test.YtlondennhhffdaaDoorRefP
namespace Go.Proofs.YtlondennhhffdaaDoor
def regsOf : Code → List (Nat × Code)
  | .region i o d => [(i, .region i o d)]
  | .loop c => regsOf c
  | .seq a b => regsOf a ++ regsOf b
  | .block _ c => regsOf c
  | .scope c => regsOf c
  | .cond _ a b => regsOf a ++ regsOf b
  | _ => []
noncomputable def rsReg (k : Nat) : Code := (((Tryd.f23.body.map regsOf).getD []).find? (fun e => e.1 == k) |>.map (·.2)).getD .skip
end Go.Proofs.YtlondennhhffdaaDoor

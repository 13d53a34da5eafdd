/- The schedule loop of seisinref03.Sum. -/
import Derived.Test.YtphmefhnffoafaaDoorCertFormsT10
import Derived.Test.YtphmefhnffoafaaDoorCertFormsT3
/- The schedule loop of seisinref03.Sum. -/
namespace Go.Proofs.YtphmefhnffoafaaDoor
open Go.RowKit Go.Shelf
set_option linter.unusedVariables false
attribute [local go_sem ↓ high] add_w
attribute [local go_sem high] xor_w and_w or_w not_w shr_w shl_w wrap_b8
attribute [local go_sem ↓ high] not_sub
end Go.Proofs.YtphmefhnffoafaaDoor
/- The regions of seisinref03.Sum, taken out of the translation. -/
namespace Go.Proofs.YtphmefhnffoafaaDoor
def regsOf : Code → List (Nat × Code)
  | .region i o d => [(i, .region i o d)]
  | .loop c => regsOf c
  | .seq a b => regsOf a ++ regsOf b
  | .block _ c => regsOf c
  | .scope c => regsOf c
  | .cond _ a b => regsOf a ++ regsOf b
  | _ => []
end Go.Proofs.YtphmefhnffoafaaDoor
/- Region 26 of seisinref03.Sum (a round). -/
namespace Go.Proofs.YtphmefhnffoafaaDoor
open Go.RowKit Go.Shelf
set_option linter.unusedVariables false
attribute [local go_sem ↓ high] add_w
attribute [local go_sem high] xor_w and_w or_w not_w shr_w shl_w wrap_b8
attribute [local go_sem ↓ high] not_sub
end Go.Proofs.YtphmefhnffoafaaDoor
/- Region 27 of seisinref03.Sum (a round). -/
namespace Go.Proofs.YtphmefhnffoafaaDoor
open Go.RowKit Go.Shelf
set_option linter.unusedVariables false
attribute [local go_sem ↓ high] add_w
attribute [local go_sem high] xor_w and_w or_w not_w shr_w shl_w wrap_b8
attribute [local go_sem ↓ high] not_sub
end Go.Proofs.YtphmefhnffoafaaDoor
/- Region 28 of seisinref03.Sum (a round). -/
namespace Go.Proofs.YtphmefhnffoafaaDoor
open Go.RowKit Go.Shelf
set_option linter.unusedVariables false
attribute [local go_sem ↓ high] add_w
attribute [local go_sem high] xor_w and_w or_w not_w shr_w shl_w wrap_b8
attribute [local go_sem ↓ high] not_sub
end Go.Proofs.YtphmefhnffoafaaDoor

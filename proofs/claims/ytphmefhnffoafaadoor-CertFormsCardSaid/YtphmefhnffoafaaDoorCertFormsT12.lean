/- Region 29 of seisinref03.Sum (a round). -/
import Derived.Test.YtphmefhnffoafaaDoorCertFormsT10
import Derived.Test.YtphmefhnffoafaaDoorCertFormsT3
import Derived.Test.YtphmefhnffoafaaDoorCertFormsT11
/- Region 29 of seisinref03.Sum (a round). -/
namespace Go.Proofs.YtphmefhnffoafaaDoor
open Go.RowKit Go.Shelf
set_option linter.unusedVariables false
attribute [local go_sem ↓ high] add_w
attribute [local go_sem high] xor_w and_w or_w not_w shr_w shl_w wrap_b8
attribute [local go_sem ↓ high] not_sub
end Go.Proofs.YtphmefhnffoafaaDoor
/- Region 30 of seisinref03.Sum (a round). -/
namespace Go.Proofs.YtphmefhnffoafaaDoor
open Go.RowKit Go.Shelf
set_option linter.unusedVariables false
attribute [local go_sem ↓ high] add_w
attribute [local go_sem high] xor_w and_w or_w not_w shr_w shl_w wrap_b8
attribute [local go_sem ↓ high] not_sub
end Go.Proofs.YtphmefhnffoafaaDoor
/- Region 31 of seisinref03.Sum (a round). -/
namespace Go.Proofs.YtphmefhnffoafaaDoor
open Go.RowKit Go.Shelf
set_option linter.unusedVariables false
attribute [local go_sem ↓ high] add_w
attribute [local go_sem high] xor_w and_w or_w not_w shr_w shl_w wrap_b8
attribute [local go_sem ↓ high] not_sub
end Go.Proofs.YtphmefhnffoafaaDoor
/- The rounds of seisinref03.Sum. -/
namespace Go.Proofs.YtphmefhnffoafaaDoor
open Go.RowKit Go.Shelf
set_option linter.unusedVariables false
attribute [local go_sem ↓ high] add_w
attribute [local go_sem high] xor_w and_w or_w not_w shr_w shl_w wrap_b8
attribute [local go_sem ↓ high] not_sub
end Go.Proofs.YtphmefhnffoafaaDoor
/- The adding loop of seisinref03.Sum. -/
namespace Go.Proofs.YtphmefhnffoafaaDoor
open Go.RowKit Go.Shelf
set_option linter.unusedVariables false
attribute [local go_sem ↓ high] add_w
attribute [local go_sem high] xor_w and_w or_w not_w shr_w shl_w wrap_b8
attribute [local go_sem ↓ high] not_sub
end Go.Proofs.YtphmefhnffoafaaDoor

/- What acts in a drawn region may yield: lists of bytes; lists of these. -/
import Derived.Test.YtphmefhnffoafaaDoorCertFormsT9
import Derived.Test.YtphmefhnffoafaaDoorCertFormsT7
import Derived.Test.YtphmefhnffoafaaDoorCertFormsT6
/- What acts in a drawn region may yield: lists of bytes; lists of these. -/
namespace Go.Proofs.YtphmefhnffoafaaDoor
open Go.RowKit Go.Shelf
theorem parts1 {w : World} {g : Nat} {t : TypeId} {A1 : Option Addr} {n1 c1 : Nat} {b1 : List UInt8} (hb : Blk w g t [.slice A1 n1 c1]) (h1 : Sl w w.heap.size 1 A1 n1 (b1.map B)) (k1 : n1 ≤ c1) :
    ∃ ps, Parts w w.heap.size (some ⟨g, 0, none⟩) 1 ps ∧ ps.map Prod.snd = [b1] :=
  ⟨[(.slice A1 n1 c1, b1)], parts_blk hb rfl (by intro p hp; simp only [List.mem_cons, List.not_mem_nil, or_false] at hp; subst hp; exact part_mk h1 k1), rfl⟩
end Go.Proofs.YtphmefhnffoafaaDoor
/- Under a mark, over a list of lists that is known by its bytes; facts ready for the laws. -/
namespace Go.Proofs.YtphmefhnffoafaaDoor
open Go.RowKit Go.Shelf
theorem punder_any {m : UInt8} {A : Option Addr} {n c : Nat} {ls : List (List UInt8)} {xs : List Value} (hx : Dig xs (sha (underB m ls))) {w : World} (hp : ∃ ps, Parts w w.heap.size A n ps ∧ ps.map Prod.snd = ls) (hn : n ≤ 400000) (hl : ∀ l ∈ ls, l.length ≤ 1000000) (ht : Tabs w) :
    Calls Tryd.prog 71 #[.int .u8 (b8 m), .slice A n c] w fun e w' => e = .returned (.agg xs.toArray) ∧ Below w.heap.size w w' := by
  obtain ⟨ps, h1, rfl⟩ := hp
  exact under_any m A n c ps hx w h1 hn (fun p hp => hl _ (List.mem_map_of_mem hp)) ht
theorem Dig.eql_b {xs ys : List Value} {a b : List UInt8} {d : Bool} (h : Dig xs a) (k : Dig ys b) (hd : (a == b) = d) (w : World) : (binOp .eql 23 (.agg xs.toArray) (.agg ys.toArray)).run Tryd.prog w = .ok (.bool d) w := by rw [h.eql k, hd]
theorem Dig.neq_b {xs ys : List Value} {a b : List UInt8} {d : Bool} (h : Dig xs a) (k : Dig ys b) (hd : (a == b) = d) (w : World) : (binOp .neq 23 (.agg xs.toArray) (.agg ys.toArray)).run Tryd.prog w = .ok (.bool !d) w := by rw [h.neq k, bne, hd]
end Go.Proofs.YtphmefhnffoafaaDoor
/- What seisinref03.Sum keeps from round to round; its loops' bodies. -/
namespace Go.Proofs.YtphmefhnffoafaaDoor
open Go.RowKit Go.Shelf
set_option linter.unusedVariables false
attribute [local go_sem ↓ high] add_w
attribute [local go_sem high] xor_w and_w or_w not_w shr_w shl_w wrap_b8
theorem not_sub (x : UInt32) : Op.intArith .sub .u32 4294967295 (w32 x) = pure (.int .u32 (w32 (~~~x))) := by
  have : IntKind.u32.wrap (4294967295 - w32 x) = w32 (~~~x) := by
    have h1 : (~~~x).toNat = 4294967295 - x.toNat := by rw [UInt32.toNat_not]; rfl
    have := x.toNat_lt
    rw [IntKind.wrap_u32]
    unfold w32
    rw [h1]
    omega
  show pure (Value.int .u32 (IntKind.u32.wrap (4294967295 - w32 x))) = _
  rw [this]
attribute [local go_sem ↓ high] not_sub
/-- What a round of the sum leaves as it is; hl: the words of h. -/
structure KeepR (g s1 s2 gm gh nb cm ch : Nat) (m : List UInt8) (hl : List Value) (w V : World) : Prop where
  msg : V.ownsRow (g + 1) 5 1 (.slice (some ⟨gm, 0, none⟩) (64 * nb) cm) (64 * nb) (m.map B)
  hs : V.ownsRow s1 186 1 (.slice (some ⟨gh, 0, none⟩) 8 ch) 8 hl
  res : Blk V g 23 (List.replicate 32 (B 0))
  low : Below g w V
  sz : s2 ≤ V.heap.size
  lm : gm < s2
  lh : gh < s2
  lg : g < s2
  mh : gm < gh
  g0 : g < gh
section
variable {g s1 s2 s3 gm gh nb cm ch : Nat} {m : List UInt8} {hl : List Value} {w V V' : World}
end
end Go.Proofs.YtphmefhnffoafaaDoor
/- The padding loops of seisinref03.Sum. -/
namespace Go.Proofs.YtphmefhnffoafaaDoor
open Go.RowKit Go.Shelf
set_option linter.unusedVariables false
attribute [local go_sem ↓ high] add_w
attribute [local go_sem high] xor_w and_w or_w not_w shr_w shl_w wrap_b8
end Go.Proofs.YtphmefhnffoafaaDoor
/- The length loop of seisinref03.Sum. -/
namespace Go.Proofs.YtphmefhnffoafaaDoor
open Go.RowKit Go.Shelf
set_option linter.unusedVariables false
attribute [local go_sem ↓ high] add_w
attribute [local go_sem high] xor_w and_w or_w not_w shr_w shl_w wrap_b8
attribute [local go_sem ↓ high] not_sub
end Go.Proofs.YtphmefhnffoafaaDoor
/- The last loop of seisinref03.Sum. -/
namespace Go.Proofs.YtphmefhnffoafaaDoor
open Go.RowKit Go.Shelf
set_option linter.unusedVariables false
attribute [local go_sem ↓ high] add_w
attribute [local go_sem high] xor_w and_w or_w not_w shr_w shl_w wrap_b8
attribute [local go_sem ↓ high] not_sub
end Go.Proofs.YtphmefhnffoafaaDoor

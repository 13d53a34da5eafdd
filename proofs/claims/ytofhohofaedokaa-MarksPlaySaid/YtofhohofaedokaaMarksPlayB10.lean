/- Contracts of entry.Put and header.Put. Printed by mkhdr.py. -/
import Derived.Test.YtofhohofaedokaaMarksPlayB1
import Derived.Test.YtofhohofaedokaaMarksPlayB8
import Derived.Test.YtofhohofaedokaaMarksPlayB9
import Derived.Test.YtofhohofaedokaaMarksPlayB2
import Derived.OpenShut
import Derived.ChangeSame
import Derived.Deep.Slices
import Derived.Laws.ResultCell
set_option linter.unusedSimpArgs false
/- Contracts of entry.Put and header.Put. Printed by mkhdr.py. -/
namespace Go.Proofs.Ytofhohofaedokaa
open Go.RowKit Go.Shelf
set_option linter.unusedVariables false

theorem zero_pen : (Try.prog.info? 72).map (·.zero) = some (some (.agg [Value.slice none 0 0].toArray)) := by kernel_rfl
theorem conv_u64 {n : Nat} (h : n ≤ 18446744073709551615) : IntKind.u64.wrap (n : Int) = (n : Int) := by rw [IntKind.wrap_u64]; omega
theorem dig_map {d : List UInt8} (h : d.length = 32) : Dig (d.map B) d := ⟨rfl, h⟩
def eformB (x : Ent) : List UInt8 := if rightE x = true then putEB x else []
def hformB (x : Hdr) : List UInt8 := if rightH x = true then putHB x else []
theorem nat_of {z : Int} (h : 0 ≤ z) : ∃ n : Nat, z = (n : Int) := ⟨z.toNat, by omega⟩
theorem midE {x : Ent} (h : x.ok) {w : World} {g : Nat} {t : TypeId} (hb : Blk w g t (entV x)) : ∀ j u, (x.tx.map B)[j]? = some u → w.cell? ⟨g, 2 + j, none⟩ = some u := by
  intro j u hj
  refine hb.at_ ?_
  have hl : j < (x.tx.map B).length := (List.getElem?_eq_some_iff.1 hj).1
  unfold entV
  rw [show 2 + j = j + 1 + 1 by omega, List.getElem?_cons_succ, List.getElem?_cons_succ, List.getElem?_append_left hl]; exact hj
theorem midP {x : Hdr} (h : x.ok) {w : World} {g : Nat} {t : TypeId} (hb : Blk w g t (hdrV x)) : ∀ j u, (x.prev.map B)[j]? = some u → w.cell? ⟨g, 3 + j, none⟩ = some u := by
  intro j u hj
  refine hb.at_ ?_
  have hl : j < (x.prev.map B).length := (List.getElem?_eq_some_iff.1 hj).1
  unfold hdrV
  rw [show 3 + j = j + 1 + 1 + 1 by omega, List.getElem?_cons_succ, List.getElem?_cons_succ, List.getElem?_cons_succ, List.getElem?_append_left hl]; exact hj
theorem midR {x : Hdr} (h : x.ok) {w : World} {g : Nat} {t : TypeId} (hb : Blk w g t (hdrV x)) : ∀ j u, (x.root.map B)[j]? = some u → w.cell? ⟨g, 35 + j, none⟩ = some u := by
  intro j u hj
  refine hb.at_ ?_
  have hl : (x.prev.map B).length = 32 := by rw [List.length_map, h.2.2.2.1]
  unfold hdrV
  rw [show 35 + j = (32 + j) + 1 + 1 + 1 by omega, List.getElem?_cons_succ, List.getElem?_cons_succ, List.getElem?_cons_succ, List.getElem?_append_right (by omega), hl, show 32 + j - 32 = j by omega]; exact hj

set_option maxRecDepth 100000 in
set_option maxHeartbeats 2000000 in
theorem eput_any (x : Ent) (w : World) (hx : x.ok) : Calls Try.prog 59 #[.agg (entV x).toArray] w fun e w' => ∃ A c, e = .returned (.tuple #[.slice A (eformB x).length c, .bool (rightE x)]) ∧ Sl w' w'.heap.size 1 A (eformB x).length ((eformB x).map B) ∧ (eformB x).length ≤ c ∧ Grow w w' := by
  have HR := Lib.hid (fun w => eright_any x w hx)
  have HXO := Lib.hid hx
  have HL := Lib.hid (entV_length hx)
  obtain ⟨r, hr⟩ : ∃ r, r = rightE x := ⟨_, rfl⟩
  have HRR := Lib.hid hr
  unfold eformB
  rw [← hr] at HR ⊢
  clear hr hx
  obtain ⟨cs, hcs⟩ : ∃ cs, cs = entV x := ⟨_, rfl⟩
  have HCS := Lib.hid hcs
  rw [← hcs] at HR HL ⊢
  clear hcs
  obtain ⟨gh, hgh⟩ : ∃ gh, gh = w.heap.size := ⟨_, rfl⟩
  have HG := Lib.hid hgh
  go_enter Try.func59, Try.ntmps59
  go_wp2_with (first | (with_reducible refine wpl_box (o := ⟨some 1, _, _, _, _, _⟩) rfl rfl rfl ?_))
  intro w1 hb1 hbw1 hsz1
  rw [← hgh] at hb1 hbw1 hsz1 ⊢
  have HH := Lib.hid hb1
  have HB := Lib.hid (show Grow w w1 by rw [hgh] at hbw1; exact hbw1)
  clear hb1 hbw1 hsz1 hgh
  go_wp2_with (first | (with_reducible refine wpl_loadb (o := ⟨some 5, _, _, _, _, _⟩) rfl rfl row_entry HH.out rfl HL.out ?_))
  refine (HR.out _).mono ?_
  rintro e w_ ⟨rfl, hb_⟩
  have HH_ := Lib.hid (HH.out.call hb_)
  have HB_ := Lib.hid (HB.out.grow' hb_)
  clear hb_ HH HB
  have HH := HH_; have HB := HB_
  clear HH_ HB_
  try clear w1
  cases r with
  | false =>
    go_wp2_with fail
    go_ret2
    exact ⟨none, ⟨0, rfl⟩, Sl.nil, HB.out⟩
  | true =>
    obtain ⟨⟨hk1, hk2⟩, ⟨hs1, hs2⟩, ha2, ⟨hy1, hy2⟩, hp1, hp2⟩ := rightE_iff.1 HRR.out.symm
    obtain ⟨_, _, htx, ⟨ha1, _⟩, _, _⟩ := HXO.out
    obtain ⟨xk, xs, tx, xa, xy, xp⟩ := x
    obtain ⟨nk, rfl⟩ := nat_of (show 0 ≤ xk by simp only at hk1; omega)
    obtain ⟨ns, rfl⟩ := nat_of hs1
    obtain ⟨na, rfl⟩ := nat_of ha1
    obtain ⟨ny, rfl⟩ := nat_of hy1
    obtain ⟨np, rfl⟩ := nat_of hp1
    simp only at hk1 hk2 hs2 ha2 hy2 hp2 htx
    have hDT := Lib.hid (dig_map htx)
    have HFL := Lib.hid (putEB_len HXO.out HRR.out.symm)
    have HEF := Lib.hid (show (if true = true then putEB ⟨(nk : Int), (ns : Int), tx, (na : Int), (ny : Int), (np : Int)⟩ else []) = putEB ⟨(nk : Int), (ns : Int), tx, (na : Int), (ny : Int), (np : Int)⟩ from rfl)
    have uk := conv_u64 (n := nk) (by omega); have us := conv_u64 (n := ns) (by omega); have uy := conv_u64 (n := ny) (by omega); have up := conv_u64 (n := np) (by omega)
    have lk := numB_le (n := nk) (by omega); have ls := numB_le (n := ns) (by omega); have la := numB_le (n := na) (by omega); have ly := numB_le (n := ny) (by omega)
    have HFE := Lib.hid (show putEB ⟨(nk : Int), (ns : Int), tx, (na : Int), (ny : Int), (np : Int)⟩ = numB nk ++ numB ns ++ tx ++ numB na ++ numB ny ++ numB np by unfold putEB; simp only [Int.toNat_natCast])
    rw [HFE.out] at HFL HEF
    go_wp2_with (first | (with_reducible refine wpl_alloc (o := ⟨some 4, _, _, _, _, _⟩) rfl rfl zero_pen ?_))
    intro w3 hb3 hbw3 hsz3
    obtain ⟨g, hg⟩ : ∃ g, g = w_.heap.size := ⟨_, rfl⟩
    rw [← hg] at hb3 hsz3 hbw3 ⊢
    obtain ⟨K, hK⟩ : ∃ K : Nat → Prop, K = fun k => k < g := ⟨_, rfl⟩
    have hKI : ∀ k, K k ↔ k < g := fun k => by rw [hK]
    have HP := Lib.hid (PenAt.new (K := K) hb3 (fun k hk => by have := (hKI k).1 hk; omega))
    have HKH := Lib.hid (show K gh by have := HH.out.lt; exact (hKI gh).2 (by omega))
    have HKW := Lib.hid (show ∀ k, k < w.heap.size → K k from fun k hk => (hKI k).2 (by have := HB.out.size; omega))
    have HB3 := Lib.hid (show Grow w w3 from HB.out.grow' (by rw [hg] at hbw3; exact hbw3))
    have HH_ := Lib.hid (HH.out.below hbw3 (by have := HH.out.lt; omega))
    clear hb3 hbw3 hsz3 hK hKI HB HH hg
    have HH := HH_
    clear HH_
    rw [HCS.out] at HH
    clear HCS HR HRR HL
    obtain ⟨w0, rfl⟩ : ∃ w0 : World, w0 = w3 := ⟨_, rfl⟩
    try clear w_
    have c0 := HH.out.at_ (ent_at HXO.out).1
    obtain ⟨w_, hw_⟩ : ∃ w_ : World, w_ = w0 := ⟨_, rfl⟩
    rw [← hw_] at HP HH c0 ⊢
    have HKK := Lib.hid (show Kept K w0 w_ by rw [hw_]; exact Kept.refl _ _)
    clear hw_
    clear c0
    have c0 := HH.out.at_ (ent_at HXO.out).1
    go_wp2_with fail
    refine (num_any g nk K ([]) _ HP.out (by simp) (by omega)).mono ?_
    rintro e w2_ ⟨rfl, hp_, hk_⟩
    have HH_ := Lib.hid (hk_.blk HH.out HKH.out)
    have HKK_ := Lib.hid (HKK.out.trans hk_)
    have HP_ := Lib.hid hp_
    clear hp_ hk_ HH HKK HP
    have HH := HH_
    have HKK := HKK_
    have HP := HP_
    clear HH_ HKK_ HP_
    try clear w_
    rename World => w_
    try clear c0
    have c0 := HH.out.at_ (ent_at HXO.out).2.1
    go_wp2_with fail
    refine (num_any g ns K ([] ++ numB nk) _ HP.out (by simp only [List.length_append, List.length_nil]; omega) (by omega)).mono ?_
    rintro e w2_ ⟨rfl, hp_, hk_⟩
    have HH_ := Lib.hid (hk_.blk HH.out HKH.out)
    have HKK_ := Lib.hid (HKK.out.trans hk_)
    have HP_ := Lib.hid hp_
    clear hp_ hk_ HH HKK HP
    have HH := HH_
    have HKK := HKK_
    have HP := HP_
    clear HH_ HKK_ HP_
    try clear w_
    rename World => w_
    try clear c0
    have hm_ := midE HXO.out HH.out
    go_wp2_with (first | (with_reducible refine wpl_loadm (o := ⟨some 17, _, _, _, _, _⟩) rfl rfl row_aid hm_ rfl (by rw [List.length_map]; exact htx) ?_))
    refine (pid_any g K ([] ++ numB nk ++ numB ns) hDT.out _ HP.out (by simp only [List.length_append, List.length_nil]; omega)).mono ?_
    rintro e w2_ ⟨rfl, hp_, hk_⟩
    have HH_ := Lib.hid (hk_.blk HH.out HKH.out)
    have HKK_ := Lib.hid (HKK.out.trans hk_)
    have HP_ := Lib.hid hp_
    clear hp_ hk_ HH HKK HP
    have HH := HH_
    have HKK := HKK_
    have HP := HP_
    clear HH_ HKK_ HP_
    try clear w_
    rename World => w_
    try clear hm_
    have c0 := HH.out.at_ (ent_at HXO.out).2.2.1
    go_wp2_with fail
    refine (num_any g na K ([] ++ numB nk ++ numB ns ++ tx) _ HP.out (by simp only [List.length_append, List.length_nil]; omega) (by omega)).mono ?_
    rintro e w2_ ⟨rfl, hp_, hk_⟩
    have HH_ := Lib.hid (hk_.blk HH.out HKH.out)
    have HKK_ := Lib.hid (HKK.out.trans hk_)
    have HP_ := Lib.hid hp_
    clear hp_ hk_ HH HKK HP
    have HH := HH_
    have HKK := HKK_
    have HP := HP_
    clear HH_ HKK_ HP_
    try clear w_
    rename World => w_
    try clear c0
    have c0 := HH.out.at_ (ent_at HXO.out).2.2.2.1
    go_wp2_with fail
    refine (num_any g ny K ([] ++ numB nk ++ numB ns ++ tx ++ numB na) _ HP.out (by simp only [List.length_append, List.length_nil]; omega) (by omega)).mono ?_
    rintro e w2_ ⟨rfl, hp_, hk_⟩
    have HH_ := Lib.hid (hk_.blk HH.out HKH.out)
    have HKK_ := Lib.hid (HKK.out.trans hk_)
    have HP_ := Lib.hid hp_
    clear hp_ hk_ HH HKK HP
    have HH := HH_
    have HKK := HKK_
    have HP := HP_
    clear HH_ HKK_ HP_
    try clear w_
    rename World => w_
    try clear c0
    have c0 := HH.out.at_ (ent_at HXO.out).2.2.2.2
    go_wp2_with fail
    refine (num_any g np K ([] ++ numB nk ++ numB ns ++ tx ++ numB na ++ numB ny) _ HP.out (by simp only [List.length_append, List.length_nil]; omega) (by omega)).mono ?_
    rintro e w2_ ⟨rfl, hp_, hk_⟩
    have HH_ := Lib.hid (hk_.blk HH.out HKH.out)
    have HKK_ := Lib.hid (HKK.out.trans hk_)
    have HP_ := Lib.hid hp_
    clear hp_ hk_ HH HKK HP
    have HH := HH_
    have HKK := HKK_
    have HP := HP_
    clear HH_ HKK_ HP_
    try clear w_
    rename World => w_
    try clear c0
    go_wp2_with fail
    refine (pbytes_any g K ([] ++ numB nk ++ numB ns ++ tx ++ numB na ++ numB ny ++ numB np) _ HP.out (by simp only [List.length_append, List.length_nil]; have := HFL.out; simp only [List.length_append] at this; omega)).mono ?_
    rintro e w5 ⟨A', c', rfl, ho, hc, hg5⟩
    have HO := Lib.hid (Sl.of_own ho)
    have HC := Lib.hid hc
    have HB5 := Lib.hid (show Grow w w5 from (Below.trans (B := w.heap.size) HB3.out (HKK.out.below HKW.out)).grow' hg5)
    clear ho hc hg5
    rw [List.nil_append] at HO HC
    go_wp2_with fail
    go_ret2
    rw [HFE.out]
    exact ⟨A', c', by simp [List.length_append, htx], HO.out, HC.out, HB5.out⟩
end Go.Proofs.Ytofhohofaedokaa

/- Layer 5, the document's answer: a digest's bytes, a leaf, a node, the root. -/
namespace Go.Proofs.Ytofhohofaedokaa
open Go.RowKit Go.Shelf
set_option linter.unusedVariables false

/-- A mark laid as a row, a length and bytes appended behind it. -/
theorem under1' (m : UInt8) (a : List UInt8) : underB m [a] = [m] ++ (beBytes a.length 4 ++ a) := by
  have : underB m [] = [m] := by unfold underB; simp
  rw [show [a] = [] ++ [a] from rfl, underB_snoc, this]
theorem under2' (m : UInt8) (a b : List UInt8) : underB m [a, b] = [m] ++ (beBytes a.length 4 ++ a) ++ (beBytes b.length 4 ++ b) := by
  rw [show [a, b] = [a] ++ [b] from rfl, underB_snoc, under1']
theorem under_eq (m : UInt8) (bs : List UInt8) (n : Nat) (h : bs.length = n) : (underB m [bs]).map B = [B m] ++ (beBytes n 4 ++ bs).map B := by
  rw [under1', h]; simp only [List.map_append, List.map_cons, List.map_nil]

end Go.Proofs.Ytofhohofaedokaa

/- Contracts of layer 6: tag.Of, tag.Is. -/
namespace Go.Proofs.Ytofhohofaedokaa
open Go.RowKit Go.Shelf
set_option linter.unusedVariables false

def tagB (key b : List UInt8) : List UInt8 := sha ((padB key).map (· ^^^ 92) ++ sha ((padB key).map (· ^^^ 54) ++ b))
theorem tagB_length (key b : List UInt8) : (tagB key b).length = 32 := sha_length _

end Go.Proofs.Ytofhohofaedokaa

/- The document's tag: seisinref06.Of, Sign. -/
namespace Go.Proofs.Ytofhohofaedokaa
open Go.RowKit Go.Shelf
set_option linter.unusedVariables false

/-! ### The document's -/
def Apart (A O : Option Addr) : Prop := ∀ g, A.map Addr.block = some g → O.map Addr.block ≠ some g
theorem Apart.symm {A O : Option Addr} (h : Apart A O) : Apart O A := fun g h1 h2 => h g h2 h1
theorem apart_app {w : World} {base sz n c : Nat} {e : TypeId} {A A1 O : Option Addr} {xs : List Value} (h : Apart A O) (ho : w.ownsRow base e sz (.slice O n c) n xs) (hA : A1.map Addr.block = A.map Addr.block ∨ ∃ j, A1.map Addr.block = some (w.heap.size + j)) : Apart A1 O := by
  intro g h1 h2
  rcases hA with hA | ⟨j, hA⟩
  · exact h g (hA ▸ h1) h2
  · have := (ho.lt g (by cases O <;> simp_all [Value.ownBlock])).2
    rw [hA] at h1
    simp only [Option.some.injEq] at h1
    omega
theorem own_apart {w w2 : World} {base sz n c : Nat} {e : TypeId} {A O : Option Addr} {xs : List Value} (ho : w.ownsRow base e sz (.slice O n c) n xs) (hg : w.grownBy w2 (A.map Addr.block)) (h : Apart A O) : w2.ownsRow base e sz (.slice O n c) n xs :=
  own_kept ho hg fun g hO hh => h g hh.symm (by rw [hO]; rfl)
theorem app_new {w : World} {A A1 : Option Addr} {k : Nat} (h : A1.map Addr.block = A.map Addr.block ∨ ∃ a, A1 = some a ∧ a.block = w.heap.size + k) : A1.map Addr.block = A.map Addr.block ∨ ∃ j, A1.map Addr.block = some (w.heap.size + j) :=
  h.imp_right fun ⟨a, h1, h2⟩ => ⟨k, by rw [h1]; exact congrArg some h2⟩
theorem app_new0 {w : World} {A A1 : Option Addr} (h : A1.map Addr.block = A.map Addr.block ∨ ∃ a, A1 = some a ∧ a.block = w.heap.size) : A1.map Addr.block = A.map Addr.block ∨ ∃ j, A1.map Addr.block = some (w.heap.size + j) :=
  h.imp_right fun ⟨a, h1, h2⟩ => ⟨0, by rw [h1]; exact congrArg some h2⟩

def keyB (key : List UInt8) : List UInt8 := if 64 < key.length then sha key else key
theorem padB_key (key : List UInt8) : padB key = keyB key ++ List.replicate (64 - (keyB key).length) 0 := rfl
theorem keyB_le (key : List UInt8) : (keyB key).length ≤ 64 := by unfold keyB; split; rw [sha_length]; omega; omega
theorem padB_lt (key : List UInt8) (k : Nat) (x : UInt8) (h : (keyB key)[k]? = some x) : (padB key)[k]? = some x := by
  rw [padB_key, List.getElem?_append_left (List.getElem?_eq_some_iff.1 h).1]; exact h
theorem padB_ge (key : List UInt8) (k : Nat) (h : (keyB key).length ≤ k) (hk : k < 64) : (padB key)[k]? = some 0 := by
  rw [padB_key, List.getElem?_append_right h, List.getElem?_replicate, if_pos (by omega)]
def turnTo (p : List UInt8) (m : UInt8) (k : Nat) : List UInt8 := (p.take k).map (· ^^^ m)
theorem turnTo_snoc (p : List UInt8) (m : UInt8) (k : Nat) (x : UInt8) (h : p[k]? = some x) : turnTo p m (k + 1) = turnTo p m k ++ [x ^^^ m] := by
  unfold turnTo; rw [List.take_add_one, h]; simp
theorem turnTo_all (p : List UInt8) (m : UInt8) (k : Nat) (h : p.length ≤ k) : turnTo p m k = p.map (· ^^^ m) := by unfold turnTo; rw [List.take_of_length_le h]
attribute [irreducible] turnTo
theorem xor54 (x : UInt8) : Op.intBits .xor .u8 (b8 x) 54 = pure (.int .u8 (b8 (x ^^^ 54))) := xor_b x 54
theorem xor92 (x : UInt8) : Op.intBits .xor .u8 (b8 x) 92 = pure (.int .u8 (b8 (x ^^^ 92))) := xor_b x 92

/-- The two texts so far. -/
def TInv (w wr : World) (A O : Option Addr) (c o k : Nat) (p : List UInt8) : Prop :=
  wr.ownsRow w.heap.size 5 1 (.slice A k c) k ((turnTo p 54 k).map B) ∧ wr.ownsRow w.heap.size 5 1 (.slice O k o) k ((turnTo p 92 k).map B) ∧ Apart A O ∧ Below w.heap.size w wr
theorem t_step {w wr w2 w3 : World} {A O A1 O1 : Option Addr} {c o c1 o1 k : Nat} {p : List UInt8} {x : UInt8} (hx : p[k]? = some x) (h : TInv w wr A O c o k p)
    (ho : w2.ownsRow w.heap.size 5 1 (.slice A1 (k + 1) c1) (k + 1) ((turnTo p 54 k).map B ++ [B (x ^^^ 54)])) (hg : wr.grownBy w2 (A.map Addr.block)) (hA : A1.map Addr.block = A.map Addr.block ∨ ∃ a, A1 = some a ∧ a.block = wr.heap.size + 1)
    (ho3 : w3.ownsRow w.heap.size 5 1 (.slice O1 (k + 1) o1) (k + 1) ((turnTo p 92 k).map B ++ [B (x ^^^ 92)])) (hg3 : w2.grownBy w3 (O.map Addr.block)) (hO : O1.map Addr.block = O.map Addr.block ∨ ∃ a, O1 = some a ∧ a.block = w2.heap.size + 1) :
    TInv w w3 A1 O1 c1 o1 (k + 1) p := by
  obtain ⟨h1, h2, h3, h4⟩ := h
  have a1 : Apart A1 O := apart_app h3 h2 (app_new hA)
  have o2 := own_apart h2 hg h3
  have a2 : Apart O1 A1 := apart_app a1.symm ho (app_new hO)
  refine ⟨?_, ?_, a2.symm, app_below (app_below h4 h1 hg) o2 hg3⟩
  · rw [turnTo_snoc p 54 k x hx, List.map_append]; exact own_apart ho hg3 a1.symm
  · rw [turnTo_snoc p 92 k x hx, List.map_append]; exact ho3
theorem t_mid {w wr w2 : World} {A O : Option Addr} {c o k : Nat} {p : List UInt8} (h : TInv w wr A O c o k p)
    (hg : wr.grownBy w2 (A.map Addr.block)) : w2.ownsRow w.heap.size 5 1 (.slice O k o) k ((turnTo p 92 k).map B) ∧ w.heap.size ≤ w2.heap.size :=
  ⟨own_apart h.2.1 hg h.2.2.1, Nat.le_trans h.2.2.2.size hg.size⟩

def zero8 : UInt8 := 0
theorem xor54z : Op.intBits .xor .u8 0 54 = pure (.int .u8 (b8 (zero8 ^^^ 54))) := xor_b 0 54
theorem xor92z : Op.intBits .xor .u8 0 92 = pure (.int .u8 (b8 (zero8 ^^^ 92))) := xor_b 0 92
theorem padB_z (key : List UInt8) (k : Nat) (h : (keyB key).length ≤ k) (hk : k < 64) : (padB key)[k]? = some zero8 := padB_ge key k h hk
attribute [irreducible] zero8
theorem tbytes_n {xs : List Value} {d : List UInt8} (hx : Dig xs d) (w : World) :
    Calls Try.prog 49 #[.agg xs.toArray] w fun e w' => ∃ A' n' c', e = .returned (.slice A' n' c') ∧ Sl w' w'.heap.size 1 A' n' (d.map B) ∧ Below w.heap.size w w' :=
  (tbytes_any hx w).mono fun e w' ⟨A', c', h1, h2, h3, h4⟩ => ⟨A', 32, c', h1, h2, h4⟩
attribute [local go_sem high] xor54 xor92 xor54z xor92z
end Go.Proofs.Ytofhohofaedokaa

/- Arguments opened: arrays of bytes, as the row's reading gives them. -/
namespace Go.Proofs.Ytofhohofaedokaa
open Go.RowKit Go.ChangeShapes Go.WideShapes
set_option linter.unusedVariables false
section
variable {H : Type} {enc : TypeId × Value → H} {P : Program} {w : World} {base : Nat} {spare : Nat → Bool} {held : Bool}

theorem trod_bytes {t e : TypeId} {n : Nat} {fuel : Nat} {cs : List Value} {x : DataW H × List MemPlace} (ht : P.underlying t = some (.array n e)) (he : P.underlying e = some (.int .u8)) (hce : P.cellsOf e = 1) (hct : P.cellsOf t = n)
    (h : DataW.trod enc P w base spare held fuel t cs = some x) : ∃ ds : List UInt8, cs = ds.map B ∧ ds.length = n := by
  obtain ⟨xs, m, rfl, rfl, hl, hxl, hi⟩ := DataW.trod_array ht h
  rw [hct] at hl
  refine ⟨cs.map (fun v => match v with | .int _ z => UInt8.ofNat z.toNat | _ => 0), ?_, by rw [List.length_map, hl]⟩
  apply List.ext_getElem?
  intro i
  by_cases hin : i < n
  · have h1 := hi i hin
    rw [hce, Nat.mul_one, List.getElem?_eq_getElem (by omega)] at h1
    obtain ⟨z, h2, _, h3⟩ := DataW.trod_int he h1
    have h4 : cs[i]? = some (.int .u8 z) := by
      have := congrArg List.head? h2
      rw [List.take_one] at this
      simpa using this
    have hz := bounds_u8 h3
    rw [List.getElem?_map, List.getElem?_map, h4]
    simp only [Option.map_some, B, b8]
    congr 2
    rw [UInt8.toNat_ofNat']
    omega
  · rw [List.getElem?_eq_none (by omega), List.getElem?_eq_none (by simp; omega)]
end


theorem open_arr32 {H : Type} {enc : TypeId × Value → H} {P : Program} {w : World} {r : Reach} {b0 base : Nat} {spare : Nat → Bool} {held : Bool} {t e : TypeId} {v : Value} {d : DataW H} {ps : List MemPlace}
    (ht : P.underlying t = some (.array 32 e)) (he : P.underlying e = some (.int .u8)) (hce : P.cellsOf e = 1) (hct : P.cellsOf t = 32) (hval : Value.okWide P w r b0 t v) (h : DataW.Trod enc P w base spare held t v d ps) :
    ∃ ds : List UInt8, v = .agg (ds.map B).toArray ∧ ds.length = 32 := by
  simp only [Value.okWide, ht] at hval
  obtain ⟨cs, rfl, hsz, _⟩ := hval
  obtain ⟨fuel, hf⟩ := h
  obtain ⟨ds, h1, h2⟩ := trod_bytes ht he hce hct hf
  refine ⟨ds, ?_, h2⟩
  simp only [Value.cells] at h1
  rw [← h1]
end Go.Proofs.Ytofhohofaedokaa

/- Arguments opened: slices, of whatever elements; slices of bytes, of slices of bytes, of digests. -/
namespace Go.Proofs.Ytofhohofaedokaa
open Go.RowKit Go.ChangeShapes Go.WideShapes Go.Deep
set_option linter.unusedVariables false
section
variable {H : Type} {enc : TypeId × Value → H} {P : Program} {w : World} {r : Reach} {b0 base : Nat} {spare : Nat → Bool} {held : Bool}

theorem flat_len {α : Type} {f : α → List Value} {sz : Nat} : ∀ {l : List α}, (∀ x ∈ l, (f x).length = sz) → (l.flatMap f).length = l.length * sz
  | [], _ => by simp
  | x :: l, h => by
    rw [List.flatMap_cons, List.length_append, h x (by simp), flat_len (l := l) (fun y hy => h y (by simp [hy])), List.length_cons, Nat.succ_mul, Nat.add_comm]
theorem flat_at {α : Type} {f : α → List Value} {sz : Nat} : ∀ {l : List α}, (∀ x ∈ l, (f x).length = sz) → 0 < sz → ∀ {j : Nat} {u : Value}, (l.flatMap f)[j]? = some u → ∃ x, l[j / sz]? = some x ∧ (f x)[j % sz]? = some u
  | [], _, _, j, u, hu => by simp at hu
  | x :: l, h, h0, j, u, hu => by
    rw [List.flatMap_cons] at hu
    have hx := h x (by simp)
    by_cases hj : j < sz
    · rw [List.getElem?_append_left (by omega)] at hu
      refine ⟨x, by rw [Nat.div_eq_of_lt hj]; rfl, by rw [Nat.mod_eq_of_lt hj]; exact hu⟩
    · rw [List.getElem?_append_right (by omega), hx] at hu
      obtain ⟨y, h1, h2⟩ := flat_at (l := l) (fun y hy => h y (by simp [hy])) h0 hu
      have e1 : j / sz = (j - sz) / sz + 1 := by rw [← Nat.div_eq_sub_div h0 (by omega)]
      have e2 : j % sz = (j - sz) % sz := by rw [Nat.mod_eq_sub_mod (by omega)]
      exact ⟨y, by rw [e1, List.getElem?_cons_succ]; exact h1, by rw [e2]; exact h2⟩

/-- A slice that came in, of elements whose cells are 'f x'. -/
theorem open_list0 {α : Type} [Inhabited α] (f : α → List Value) (ok : α → Prop) {t e : TypeId} {fuel : Nat} {cs : List Value} {y : DataW H × List MemPlace} {sz : Nat} (ht : P.underlying t = some (.slice e)) (hce : P.cellsOf e = sz) (hsz : 0 < sz)
    (helem : ∀ fuel cs y, cs.length = sz → DataW.trod enc P w base spare held fuel e cs = some y → ∃ x, cs = f x ∧ ok x)
    (hf : DataW.trod enc P w base spare held fuel t cs = some y) :
    ∃ A n c, ∃ l : List α, cs = [.slice A n c] ∧ l.length = n ∧ n ≤ c ∧ c ≤ maxLen ∧ Sl w w.heap.size sz A n (l.flatMap f) ∧ (∀ x ∈ l, ok x) ∧ (∀ x ∈ l, (f x).length = sz) := by
  rcases open_slice ht hf with ⟨hcs, _⟩ | ⟨a, n, c, m, k, D, Pl, hcs, _, hl, hm, hmm, _, hx⟩
  · subst hcs
    exact ⟨none, 0, 0, [], rfl, rfl, Nat.le_refl _, Nat.zero_le _, ⟨by simp, fun h => absurd h (by omega)⟩, by simp, by simp⟩
  · subst hcs
    have hle : n ≤ m := by rw [hmm]; split <;> omega
    rw [hce] at hx
    obtain ⟨X, hX⟩ := choose_lt (n := n) (p := fun i (x : α) => w.cells? base (a.add (i * sz)) sz = some (f x) ∧ (f x).length = sz ∧ ok x) (fun i hi => by
      obtain ⟨cs', h1, h2⟩ := hx i (by omega)
      obtain ⟨_, hlen, _⟩ := World.cells?_some h1
      obtain ⟨x, e, hok⟩ := helem _ _ _ hlen h2
      exact ⟨x, by rw [← e]; exact h1, by rw [← e]; exact hlen, hok⟩)
    have hlen : ∀ x ∈ (List.range n).map X, (f x).length = sz := by
      intro x hx
      obtain ⟨i, hi, rfl⟩ := List.mem_map.1 hx
      exact (hX i (by simpa using hi)).2.1
    refine ⟨some a, n, c, (List.range n).map X, rfl, by simp, hl, hm, ⟨by rw [flat_len hlen]; simp, fun hn => ?_⟩, ?_, hlen⟩
    · obtain ⟨b, off, spot⟩ := a
      obtain ⟨_, _, h0⟩ := World.cells?_some (hX 0 hn).1
      have h00 := h0 0 hsz
      have hc0 : ∃ u, w.cell? ((Addr.add ⟨b, off, spot⟩ (0 * sz)).add 0) = some u := ⟨_, by rw [h00, List.getElem?_eq_getElem (by rw [(hX 0 hn).2.1]; exact hsz)]⟩
      obtain ⟨u0, hu0⟩ := hc0
      have hspot : spot = none := by simpa [Addr.add] using World.cell?_spot hu0
      subst hspot
      refine ⟨b, off, rfl, by have := World.block_lt_of_cell? w _ hu0; simpa [Addr.add] using this, fun j u hu => ?_⟩
      obtain ⟨x, h1, h2⟩ := flat_at hlen hsz hu
      rw [List.getElem?_map] at h1
      obtain ⟨i, h3, rfl⟩ := Option.map_eq_some_iff.1 h1
      have hi : j / sz = i ∧ i < n := by
        rcases Nat.lt_or_ge (j / sz) n with hl | hl
        · rw [List.getElem?_range hl] at h3; cases h3; exact ⟨rfl, hl⟩
        · rw [List.getElem?_eq_none (by simpa using hl)] at h3; cases h3
      obtain ⟨_, _, hc⟩ := World.cells?_some (hX i hi.2).1
      have := hc (j % sz) (Nat.mod_lt _ hsz)
      rw [h2, Addr.add_lit, Addr.add_lit] at this
      rw [← this, ← hi.1]
      have := Nat.div_add_mod j sz
      have e : off + j = off + j / sz * sz + j % sz := by rw [Nat.mul_comm] at this; omega
      rw [e]
    · intro x hx
      obtain ⟨i, hi, rfl⟩ := List.mem_map.1 hx
      exact (hX i (by simpa using hi)).2.2

theorem open_list {α : Type} [Inhabited α] (f : α → List Value) (ok : α → Prop) {t e : TypeId} {v : Value} {d : DataW H} {ps : List MemPlace} {sz : Nat} (ht : P.underlying t = some (.slice e)) (hce : P.cellsOf e = sz) (hsz : 0 < sz)
    (helem : ∀ fuel cs y, cs.length = sz → DataW.trod enc P w base spare held fuel e cs = some y → ∃ x, cs = f x ∧ ok x)
    (hval : Value.okWide P w r b0 t v) (h : DataW.Trod enc P w base spare held t v d ps) :
    ∃ A n c, ∃ l : List α, v = .slice A n c ∧ l.length = n ∧ n ≤ c ∧ c ≤ maxLen ∧ Sl w w.heap.size sz A n (l.flatMap f) ∧ (∀ x ∈ l, ok x) ∧ (∀ x ∈ l, (f x).length = sz) := by
  obtain ⟨A, n, c, rfl⟩ := okWide_slice ht hval
  obtain ⟨fuel, hf⟩ := h
  obtain ⟨A', n', c', l, h1, hr⟩ := open_list0 f ok ht hce hsz helem hf
  have h1 : A = A' ∧ n = n' ∧ c = c' := by simpa [Value.cells] using h1
  obtain ⟨rfl, rfl, rfl⟩ := h1
  exact ⟨A, n, c, l, rfl, hr⟩

theorem flat_one {α : Type} (g : α → Value) (l : List α) : l.flatMap (fun x => [g x]) = l.map g := by
  induction l with
  | nil => rfl
  | cons x l ih => simp [ih]

theorem trod_u8 {e : TypeId} (he : P.underlying e = some (.int .u8)) {fuel : Nat} {cs : List Value} {y : DataW H × List MemPlace} (h : DataW.trod enc P w base spare held fuel e cs = some y) : ∃ x : UInt8, cs = [B x] ∧ True := by
  obtain ⟨z, h1, _, h2⟩ := DataW.trod_int he h
  have hz := bounds_u8 h2
  refine ⟨UInt8.ofNat z.toNat, ?_, trivial⟩
  rw [h1]
  simp only [B, b8]
  congr 2
  rw [UInt8.toNat_ofNat']; omega
theorem open_u8s0 {t e : TypeId} {fuel : Nat} {cs : List Value} {y : DataW H × List MemPlace} (ht : P.underlying t = some (.slice e)) (he : P.underlying e = some (.int .u8)) (hce : P.cellsOf e = 1) (h : DataW.trod enc P w base spare held fuel t cs = some y) :
    ∃ A n c, ∃ bs : List UInt8, cs = [.slice A n c] ∧ Sl w w.heap.size 1 A n (bs.map B) ∧ n ≤ c ∧ c ≤ maxLen ∧ bs.length = n := by
  obtain ⟨A, n, c, l, h1, h2, h3, h4, h5, _⟩ := open_list0 (fun x : UInt8 => [B x]) (fun _ => True) ht hce (by omega) (fun fuel cs y _ h => trod_u8 he h) h
  exact ⟨A, n, c, l, h1, by rw [← flat_one]; exact h5, h3, h4, h2⟩
theorem open_u8s {t e : TypeId} {v : Value} {d : DataW H} {ps : List MemPlace} (ht : P.underlying t = some (.slice e)) (he : P.underlying e = some (.int .u8)) (hce : P.cellsOf e = 1) (hval : Value.okWide P w r b0 t v) (h : DataW.Trod enc P w base spare held t v d ps) :
    ∃ A n c, ∃ bs : List UInt8, v = .slice A n c ∧ Sl w w.heap.size 1 A n (bs.map B) ∧ n ≤ c ∧ c ≤ maxLen := by
  obtain ⟨A, n, c, l, h1, h2, h3, h4, h5, _⟩ := open_list (fun x : UInt8 => [B x]) (fun _ => True) ht hce (by omega) (fun fuel cs y _ h => trod_u8 he h) hval h
  exact ⟨A, n, c, l, h1, by rw [← flat_one]; exact h5, h3, h4⟩
end
end Go.Proofs.Ytofhohofaedokaa

/- Contracts of layer 6: the ring. -/
namespace Go.Proofs.Ytofhohofaedokaa
open Go.RowKit Go.Shelf
set_option linter.unusedVariables false

theorem ret_cell2 {P : Program} {w : World} {a : Act} {fn : Func} {p u : Tmp} {ty : TypeId} (h : fn.results = #[.cell p ty, .tmp u]) {n : Nat} (hT : RowT P ty n) {g : Nat} {t : TypeId} {cs : List Value} (hb : Blk w g t cs) (hp : a.tmps.getD p undef = .pointer (some ⟨g, 0, none⟩)) (hn : cs.length = n) (hd : a.defers = [])
    {v : Value} (hv : a.tmps.getD u undef = v) {R : Ending → World → Prop} (hR : R (.returned (.tuple #[.agg cs.toArray, v])) w) : bodyPost P fn R .ret a w := by
  obtain ⟨d, hu, hdd, hi⟩ := hT
  refine bodyPost_ret ?_ hd hR
  rw [results_cell_tmp h, hp, hv]
  have hrun := run_loadVar_row (P := P) w g t ty cs.toArray (0, 0) d hb hu (by revert hdd; cases d <;> simp) (by rw [hi]; simp [hn])
  simp only [asAddr, Sem.run_pure, Result.andThen_ok, hrun]
theorem info_id : (Try.prog.info? 28).map (fun i => (i.zero, i.size, i.bytes)) = some (some (.agg (List.replicate 32 (B 0)).toArray), 32, 32) := by kernel_rfl
theorem el_id : ElemT Try.prog 32 28 32 32 := elemT Try.underlying32 info_id rfl (by omega)
theorem fold_set_aux : ∀ (ys : List Value) (k : Nat) (z : Array Value), z.size = k + ys.length → ((ys.zipIdx k).foldl (fun cs x => cs.setIfInBounds x.2 x.1) z).toList = z.toList.take k ++ ys
  | [], k, z, h => by
    simp only [List.zipIdx_nil, List.foldl_nil, List.append_nil]
    rw [List.take_of_length_le (by simpa using Nat.le_of_eq h)]
  | y :: ys, k, z, h => by
    rw [List.zipIdx_cons, List.foldl_cons, fold_set_aux ys (k + 1) _ (by simp only [Array.size_setIfInBounds, List.length_cons] at *; omega)]
    simp only [Array.toList_setIfInBounds]
    have hk : k < z.toList.length := by simp only [List.length_cons, Array.length_toList] at *; omega
    rw [List.take_add_one, List.getElem?_set_self hk, Option.toList_some, List.take_set_of_le (Nat.le_refl _), List.append_assoc]
    rfl
theorem fold_set (z : Array Value) (ys : List Value) (h : z.size = ys.length) : (ys.zipIdx.foldl (fun cs x => cs.setIfInBounds x.2 x.1) z).toList = ys := by
  have := fold_set_aux ys 0 z (by omega)
  simpa using this
def ringB (seed : List UInt8) (n : Nat) : List (List UInt8) := (List.range n).map fun i => tagB seed [UInt8.ofNat i]
def idCells (ds : List (List UInt8)) : List Value := ds.flatMap (·.map B)
theorem idCells_snoc (ds : List (List UInt8)) (d : List UInt8) : idCells (ds ++ [d]) = idCells ds ++ d.map B := by unfold idCells; simp
theorem ringB_succ (seed : List UInt8) (k : Nat) : ringB seed (k + 1) = ringB seed k ++ [tagB seed [UInt8.ofNat k]] := by unfold ringB; rw [List.range_succ, List.map_append]; rfl
theorem ringB_len (seed : List UInt8) (k : Nat) : (ringB seed k).length = k := by unfold ringB; simp
theorem ringB_all (seed : List UInt8) (k : Nat) : ∀ d ∈ ringB seed k, d.length = 32 := by
  intro d hd; unfold ringB at hd; obtain ⟨i, _, rfl⟩ := List.mem_map.1 hd; exact tagB_length _ _
theorem ringB_at (seed : List UInt8) {n k : Nat} (hk : k < n) : (ringB seed n)[k]? = some (tagB seed [UInt8.ofNat k]) := by
  unfold ringB; rw [List.getElem?_map, List.getElem?_range hk]; rfl
/-- Digests one behind the other. -/
def Ids (w : World) (A : Option Addr) (n c : Nat) (ds : List (List UInt8)) : Prop := Sl w w.heap.size 32 A n (idCells ds) ∧ ds.length = n ∧ (∀ d ∈ ds, d.length = 32) ∧ n ≤ c
theorem Ids.grow {w w' : World} {A : Option Addr} {n c : Nat} {ds : List (List UInt8)} (h : Ids w A n c ds) (k : Grow w w') : Ids w' A n c ds := ⟨h.1.grow k, h.2⟩
theorem Ids.key {w : World} {A : Option Addr} {n c k : Nat} {ds : List (List UInt8)} (h : Ids w A n c ds) (hk : k < n) : ∃ b off d, A = some ⟨b, off, none⟩ ∧ ds[k]? = some d ∧ d.length = 32 ∧ b < w.heap.size ∧ ∀ j u, (d.map B)[j]? = some u → w.cell? ⟨b, off + k * 32 + j, none⟩ = some u := by
  obtain ⟨h1, h2, h3, h4⟩ := h
  obtain ⟨b, off, e, hb, hc⟩ := h1.2 (by omega)
  have hlen : ∀ x ∈ ds, (x.map B).length = 32 := fun x hx => by rw [List.length_map]; exact h3 x hx
  have hd : ds[k]? = some (ds[k]'(by omega)) := List.getElem?_eq_getElem (by omega)
  refine ⟨b, off, _, e, hd, h3 _ (List.mem_of_getElem? hd), hb, fun j u hu => ?_⟩
  have hj : j < 32 := by have := (List.getElem?_eq_some_iff.1 hu).1; rw [List.length_map, h3 _ (List.mem_of_getElem? hd)] at this; exact this
  have hfl : (idCells ds).length = ds.length * 32 := flat_len hlen
  have hi : k * 32 + j < (idCells ds).length := by rw [hfl]; omega
  obtain ⟨x, hx, hxj⟩ := flat_at hlen (by omega) (List.getElem?_eq_getElem hi)
  have e1 : (k * 32 + j) / 32 = k := by omega
  have e2 : (k * 32 + j) % 32 = j := by omega
  rw [e1, hd] at hx
  cases hx
  rw [e2, hu] at hxj
  have := hc (k * 32 + j) u (by rw [List.getElem?_eq_getElem hi]; exact hxj.symm)
  rw [Nat.add_assoc]; exact this
theorem Ids.sl {w : World} {b off n c k : Nat} {ds : List (List UInt8)} {d : List UInt8} (h : Ids w (some ⟨b, off, none⟩) n c ds) (hk : ds[k]? = some d) : Sl w w.heap.size 1 (some ⟨b, off + k * 32, none⟩) 32 (d.map B) := by
  have hkn : k < n := by have := (List.getElem?_eq_some_iff.1 hk).1; rw [h.2.1] at this; exact this
  obtain ⟨b', off', d', e, h1, h2, h3, h4⟩ := h.key hkn
  cases e
  rw [hk] at h1; cases h1
  exact ⟨by rw [List.length_map, h2], fun _ => ⟨_, _, rfl, h3, h4⟩⟩
end Go.Proofs.Ytofhohofaedokaa

/- Layer 5: the path, in the program and in the document's answer. -/
namespace Go.Proofs.Ytofhohofaedokaa
open Go.RowKit Go.Shelf
set_option linter.unusedVariables false

def pathB (l : List (List UInt8)) (i : Nat) : List (List UInt8) :=
  if h : l.length < 2 ∨ l.length ≤ i then [] else
  if i < halfN l.length then pathB (l.take (halfN l.length)) i ++ [rootB (l.drop (halfN l.length))] else pathB (l.drop (halfN l.length)) (i - halfN l.length) ++ [rootB (l.take (halfN l.length))]
termination_by l.length
decreasing_by
  · rw [List.length_take]; have := halfN_lt (n := l.length) (by omega); omega
  · rw [List.length_drop]; have := halfN_pos l.length; omega
theorem pathB_none (l : List (List UInt8)) (i : Nat) (h : l.length < 2 ∨ l.length ≤ i) : pathB l i = [] := by rw [pathB, dif_pos h]
theorem pathB_left (l : List (List UInt8)) (i : Nat) (h : 2 ≤ l.length) (h2 : i < halfN l.length) : pathB l i = pathB (l.take (halfN l.length)) i ++ [rootB (l.drop (halfN l.length))] := by
  rw [pathB, dif_neg (by have := halfN_lt h; omega), if_pos h2]
theorem pathB_right (l : List (List UInt8)) (i : Nat) (h : 2 ≤ l.length) (hi : i < l.length) (h2 : ¬ i < halfN l.length) : pathB l i = pathB (l.drop (halfN l.length)) (i - halfN l.length) ++ [rootB (l.take (halfN l.length))] := by
  rw [pathB, dif_neg (by omega), if_neg h2]
theorem pathB_le : ∀ (N : Nat) (l : List (List UInt8)) (i : Nat), l.length ≤ N → (pathB l i).length ≤ N := by
  intro N
  induction N with
  | zero => intro l i h; rw [pathB_none l i (by omega)]; simp
  | succ N ih =>
    intro l i h
    by_cases h0 : l.length < 2 ∨ l.length ≤ i
    · rw [pathB_none l i h0]; simp
    · have h2 : 2 ≤ l.length := by omega
      have hk1 := halfN_pos l.length
      have hk2 := halfN_lt h2
      by_cases h3 : i < halfN l.length
      · rw [pathB_left l i h2 h3, List.length_append]
        have := ih (l.take (halfN l.length)) i (by rw [List.length_take]; omega)
        simp; omega
      · rw [pathB_right l i h2 (by omega) h3, List.length_append]
        have := ih (l.drop (halfN l.length)) (i - halfN l.length) (by rw [List.length_drop]; omega)
        simp; omega
theorem pathB_32 : ∀ (N : Nat) (l : List (List UInt8)) (i : Nat), l.length ≤ N → ∀ d ∈ pathB l i, d.length = 32 := by
  intro N
  induction N with
  | zero => intro l i h; rw [pathB_none l i (by omega)]; intro d hd; cases hd
  | succ N ih =>
    intro l i h
    by_cases h0 : l.length < 2 ∨ l.length ≤ i
    · rw [pathB_none l i h0]; intro d hd; cases hd
    · have h2 : 2 ≤ l.length := by omega
      have hk1 := halfN_pos l.length
      have hk2 := halfN_lt h2
      by_cases h3 : i < halfN l.length
      · rw [pathB_left l i h2 h3]
        intro d hd
        rcases List.mem_append.1 hd with hd | hd
        · exact ih _ i (by rw [List.length_take]; omega) d hd
        · simp only [List.mem_singleton] at hd; subst hd; exact rootB_len _
      · rw [pathB_right l i h2 (by omega) h3]
        intro d hd
        rcases List.mem_append.1 hd with hd | hd
        · exact ih _ _ (by rw [List.length_drop]; omega) d hd
        · simp only [List.mem_singleton] at hd; subst hd; exact rootB_len _
def pathI (l : List (List UInt8)) (i : Int) : List (List UInt8) := if i < 0 then [] else pathB l i.toNat
theorem pathI_nat (l : List (List UInt8)) (i : Nat) : pathI l (i : Int) = pathB l i := by unfold pathI; rw [if_neg (by omega)]; rfl
theorem pathI_le (l : List (List UInt8)) (i : Int) : (pathI l i).length ≤ l.length := by
  unfold pathI; split
  · simp
  · exact pathB_le _ _ _ (Nat.le_refl _)
theorem pathI_32 (l : List (List UInt8)) (i : Int) : ∀ d ∈ pathI l i, d.length = 32 := by
  unfold pathI; split
  · intro d hd; cases hd
  · exact pathB_32 _ _ _ (Nat.le_refl _)
def OwnI (w : World) (base : Nat) (A : Option Addr) (n c : Nat) (ds : List (List UInt8)) : Prop := w.ownsRow base 28 32 (.slice A n c) n (idCells ds)
theorem OwnI.grow {w w' : World} {base n c : Nat} {A : Option Addr} {ds : List (List UInt8)} (h : OwnI w base A n c ds) (k : Grow w w') : OwnI w' base A n c ds := own_below h k
attribute [local irreducible] pathI

end Go.Proofs.Ytofhohofaedokaa

/- Layer 5: climbing. -/
namespace Go.Proofs.Ytofhohofaedokaa
open Go.RowKit Go.Shelf
set_option linter.unusedVariables false

def climbB (d : List UInt8) (i n : Nat) (p : List (List UInt8)) : Option (List UInt8) :=
  if h : n < 2 then (if p = [] then some d else none) else
  match p.getLast? with
  | none => none
  | some last => if i < halfN n then (climbB d i (halfN n) p.dropLast).map fun x => nodeB x last else (climbB d (i - halfN n) (n - halfN n) p.dropLast).map fun x => nodeB last x
termination_by n
decreasing_by
  · exact halfN_lt (by omega)
  · have := halfN_pos n; omega
theorem climbB_one (d : List UInt8) (i n : Nat) (p : List (List UInt8)) (h : n < 2) : climbB d i n p = if p = [] then some d else none := by rw [climbB, dif_pos h]
theorem climbB_nil (d : List UInt8) (i n : Nat) (h : 2 ≤ n) : climbB d i n [] = none := by rw [climbB, dif_neg (by omega)]; rfl
theorem climbB_left (d : List UInt8) (i n : Nat) (p : List (List UInt8)) (last : List UInt8) (h : 2 ≤ n) (hl : p.getLast? = some last) (hk : i < halfN n) : climbB d i n p = (climbB d i (halfN n) p.dropLast).map fun x => nodeB x last := by
  rw [climbB, dif_neg (by omega), hl]; simp only; rw [if_pos hk]
theorem climbB_right (d : List UInt8) (i n : Nat) (p : List (List UInt8)) (last : List UInt8) (h : 2 ≤ n) (hl : p.getLast? = some last) (hk : ¬ i < halfN n) : climbB d i n p = (climbB d (i - halfN n) (n - halfN n) p.dropLast).map fun x => nodeB last x := by
  rw [climbB, dif_neg (by omega), hl]; simp only; rw [if_neg hk]
attribute [local irreducible] nodeB leafB

theorem Sl.to32 {w : World} {Bd n m : Nat} {A : Option Addr} {xs : List Value} (h : Sl w Bd 32 A n xs) (hm : m ≤ n) : Sl w Bd 32 A m (xs.take (m * 32)) := by
  refine ⟨by rw [List.length_take, h.1]; exact Nat.min_eq_left (Nat.mul_le_mul_right _ hm), fun h0 => ?_⟩
  obtain ⟨b, off, e, hb, hc⟩ := h.2 (by omega)
  refine ⟨b, off, e, hb, fun j u hu => hc j u ?_⟩
  have hj := (List.getElem?_eq_some_iff.1 hu).1
  rw [List.length_take] at hj
  rw [List.getElem?_take_of_lt (by omega)] at hu
  exact hu
theorem idCells_take {ds : List (List UInt8)} (h : ∀ d ∈ ds, d.length = 32) (m : Nat) : (idCells ds).take (m * 32) = idCells (ds.take m) := by
  induction ds generalizing m with
  | nil => simp [idCells]
  | cons x xs ih =>
    cases m with
    | zero => simp [idCells]
    | succ m =>
      have hx := h x (by simp)
      have e : idCells (x :: xs) = x.map B ++ idCells xs := by simp [idCells]
      have e2 : idCells ((x :: xs).take (m + 1)) = x.map B ++ idCells (xs.take m) := by simp [idCells]
      rw [e, e2, List.take_append, List.take_of_length_le (by rw [List.length_map, hx]; omega), List.length_map, hx, show (m + 1) * 32 - 32 = m * 32 by omega, ih (fun d hd => h d (by simp [hd]))]
theorem Ids.take {w : World} {A : Option Addr} {n c m : Nat} {ds : List (List UInt8)} (h : Ids w A n c ds) (hm : m ≤ n) : Ids w A m c (ds.take m) := by
  obtain ⟨h1, h2, h3, h4⟩ := h
  refine ⟨by rw [← idCells_take h3]; exact h1.to32 hm, by rw [List.length_take, h2]; exact Nat.min_eq_left hm, fun d hd => h3 d (List.mem_of_mem_take hd), by omega⟩

/-- A mid part of a row read; what may happen besides makes memory alone. -/
theorem pl_loadm {P : Program} {ops : Array Oper} {cl : List Nat} {Q : Exit → Act → World → Prop} {o : Oper} {i : Nat} {t : Plan} {a : Act} {w : World} {T : TypeId} {x : Operand} {n b off : Nat} {cs : List Value} (hi : ops[i]? = some o) (hc : plCls cl i = 1 ∨ plCls cl i = 2) (hw : Region.wanted o (yielded ops a.tmps) = true) (ho : o.op = .load T x) (hT : RowT P T n)
    (hcell : ∀ j u, cs[j]? = some u → w.cell? ⟨b, off + j, none⟩ = some u) (hbz : b < w.heap.size) (hx : a.eval x = .pointer (some ⟨b, off, none⟩)) (hn : cs.length = n)
    (hk : ∀ K : Act → World → Prop, (∀ a w, wpS P ops Grow cl Q t a w → K a w) → K (a.put o.dst (.agg cs.toArray)) w) : wpS P ops Grow cl Q (.get i t) a w := by
  have hrun : ∀ w', Grow w w' → (execOp a.eval o).run P w' = .ok (.value (.agg cs.toArray)) w' := by
    intro w' hf
    obtain ⟨d, hu, hd, hi⟩ := hT
    have h := run_loadVar_mid (P := P) w' b off T cs d (fun j u hu => (hf.cell (show (⟨b, off + j, none⟩ : Addr).block < w.heap.size from hbz)).trans (hcell j u hu)) hu (by cases d <;> simp_all) (by rw [hi, hn])
    unfold execOp
    simp only [ho, hx, Instr.loadAt, Instr.sureAddr, Sem.run_bind, Sem.run_pure, Result.andThen_ok, h]
  rcases hc with hc | hc
  · exact pl_read hi hc hw hrun hk
  · exact pl_now hi hc hw (hrun w (Grow.refl w)) hk
end Go.Proofs.Ytofhohofaedokaa

/- Layer 5: climbing, region by region. -/
namespace Go.Proofs.Ytofhohofaedokaa
open Go.RowKit Go.Shelf
set_option linter.unusedVariables false

theorem Ids.up {w w' : World} {A : Option Addr} {n c : Nat} {ds : List (List UInt8)} (h : Ids w A n c ds) (hb : Below w.heap.size w w') : Ids w' A n c ds := h.grow hb
attribute [local irreducible] nodeB leafB

end Go.Proofs.Ytofhohofaedokaa

/- Layer 5: climbing; whether a path climbs to a root. -/
namespace Go.Proofs.Ytofhohofaedokaa
open Go.RowKit Go.Shelf
set_option linter.unusedVariables false
attribute [local irreducible] nodeB leafB

theorem zlit5 : (List.replicate 32 (B 0)).toArray = (#[.int .u8 0, .int .u8 0, .int .u8 0, .int .u8 0, .int .u8 0, .int .u8 0, .int .u8 0, .int .u8 0, .int .u8 0, .int .u8 0, .int .u8 0, .int .u8 0, .int .u8 0, .int .u8 0, .int .u8 0, .int .u8 0, .int .u8 0, .int .u8 0, .int .u8 0, .int .u8 0, .int .u8 0, .int .u8 0, .int .u8 0, .int .u8 0, .int .u8 0, .int .u8 0, .int .u8 0, .int .u8 0, .int .u8 0, .int .u8 0, .int .u8 0, .int .u8 0] : Array Value) := by rfl
theorem zero_dig5 : Dig (List.replicate 32 (B 0)) (List.replicate 32 0) := ⟨by simp, by simp⟩
theorem ones0 : ∀ u ∈ List.replicate 32 (B 0), u.oneCell' = true := by intro u hu; rw [List.eq_of_mem_replicate hu]; rfl
def upPhi (d : List UInt8) (i k : Nat) (p : List (List UInt8)) (d' : List UInt8) : Prop := ∀ x, climbB d i k p = some x → d' = x

/-- What climbing answers: the root, if there is one. -/
def climbT (b : List UInt8) (i n : Int) (p : List (List UInt8)) : Option (List UInt8) := if n < 1 ∨ 1048576 < n ∨ i < 0 ∨ n ≤ i then none else climbB (leafB b) i.toNat n.toNat p
theorem climbB_32 (d : List UInt8) (hd : d.length = 32) : ∀ (M n i : Nat) (p : List (List UInt8)) (x : List UInt8), n ≤ M → climbB d i n p = some x → x.length = 32 := by
  intro M
  induction M with
  | zero =>
    intro n i p x hn h
    rw [climbB_one _ _ _ _ (by omega)] at h
    split at h
    · cases h; exact hd
    · cases h
  | succ M ih =>
    intro n i p x hn h
    by_cases h2 : n < 2
    · rw [climbB_one _ _ _ _ h2] at h
      split at h
      · cases h; exact hd
      · cases h
    · cases hl : p.getLast? with
      | none => rw [climbB, dif_neg h2, hl] at h; cases h
      | some last =>
        by_cases hk : i < halfN n
        · rw [climbB_left _ _ _ _ last (by omega) hl hk] at h
          obtain ⟨y, _, rfl⟩ := Option.map_eq_some_iff.1 h
          exact nodeB_len _ _
        · rw [climbB_right _ _ _ _ last (by omega) hl hk] at h
          obtain ⟨y, _, rfl⟩ := Option.map_eq_some_iff.1 h
          exact nodeB_len _ _
theorem climbT_32 {b : List UInt8} {i n : Int} {p : List (List UInt8)} {x : List UInt8} (h : climbT b i n p = some x) : x.length = 32 := by
  unfold climbT at h
  split at h
  · cases h
  · exact climbB_32 _ (leafB_len b) _ _ _ _ _ (Nat.le_refl _) h
/-- The digest that is answered: the root, or none of bits. -/
def climbD (b : List UInt8) (i n : Int) (p : List (List UInt8)) : List UInt8 := (climbT b i n p).getD (List.replicate 32 0)
theorem climbD_len (b : List UInt8) (i n : Int) (p : List (List UInt8)) : (climbD b i n p).length = 32 := by
  unfold climbD
  cases h : climbT b i n p with
  | none => simp
  | some x => simpa using climbT_32 h

end Go.Proofs.Ytofhohofaedokaa

/- Layer 5: whether a path climbs; what is looked at; the same digests; the document's example. -/
namespace Go.Proofs.Ytofhohofaedokaa
open Go.RowKit Go.Shelf
set_option linter.unusedVariables false
attribute [local irreducible] nodeB leafB noneB

set_option maxRecDepth 100000 in
set_option maxHeartbeats 1000000 in
theorem rsame5_eq (A A2 : Option Addr) (n c c2 : Nat) (ds : List (List UInt8)) (w : World) (hn : n ≤ 1000000) (h1 : Ids w A n c ds) (h2 : Ids w A2 n c2 ds) :
    Calls Try.prog 41 #[.slice A n c, .slice A2 n c2] w fun e w' => e = .returned (.bool true) ∧ Below w.heap.size w w' := by
  have H1 := Lib.hid h1; have H2 := Lib.hid h2
  clear h1 h2
  go_enter Try.func41, Try.ntmps41
  go_wp2_with fail
  go_loopw [5] (fun i wr => ∃ k : Nat, k ≤ n ∧ i = .int .i64 k ∧ Hid (Below w.heap.size w wr)) (fun i _ => n - (intOf i).toNat)
  case atStart => exact ⟨0, by omega, rfl, Lib.hid (Below.refl _ _)⟩
  case round =>
    obtain ⟨k, hk, rfl, hbw⟩ := hrel
    by_cases hlt : k < n
    · have HB := hbw
      have H1A := Lib.hid (H1.out.up HB.out)
      have H2A := Lib.hid (H2.out.up HB.out)
      try go_wp2_with fail
      repeat' (first | (with_reducible refine wp_plan (id := 6) Grow [0,0,0,2,0,0,0,2,0] (.get 0 (.get 1 (.get 2 (.get 3 (.get 4 (.get 5 (.get 6 (.get 7 (.get 8 .done))))))))) (by kernel_rfl) (by kernel_rfl) Grow.refl Grow.trans ?_) | go_values | go_skip | go_guarded | go_step | go_upon | go_back)
      intro w_ hd_
      have hb_ := hd_.grow
      have HB_ := Lib.hid (HB.out.grow' hb_)
      clear HB
      have HB := HB_
      clear HB_
      have H1A_ := Lib.hid (H1A.out.grow hb_)
      clear H1A
      have H1A := H1A_
      clear H1A_
      have H2A_ := Lib.hid (H2A.out.grow hb_)
      clear H2A
      have H2A := H2A_
      clear H2A_
      clear hb_ hd_
      obtain ⟨b1, o1, d, rfl, hd, hd32, hb1, hc1⟩ := H1A.out.key hlt
      obtain ⟨b2, o2, d2, rfl, hd2, _, hb2, hc2⟩ := H2A.out.key hlt
      obtain rfl : d2 = d := by rw [hd] at hd2; exact (Option.some.inj hd2).symm
      obtain ⟨vs, hvs⟩ : ∃ vs, vs = d2.map B := ⟨_, rfl⟩
      have HV := Lib.hid (show Dig vs d2 from ⟨hvs, hd32⟩)
      rw [← hvs] at hc1 hc2
      have HC1 := Lib.hid hc1; have HC2 := Lib.hid hc2
      have HB1 := Lib.hid hb1; have HB2 := Lib.hid hb2
      have hne : ∀ w, (binOp .neq 28 (.agg vs.toArray) (.agg vs.toArray)).run Try.prog w = .ok (.bool false) w := fun w => by rw [HV.out.neq HV.out]; simp
      clear hvs hc1 hc2 hb1 hb2 hd hd2 hd32
      repeat (first | (refine pl_calm rfl rfl (by first | exact wanted_none rfl | (go_simp; done) | rfl) (fun w_ => by first | (go_simp; rfl) | (go_simp; done) | rfl) (fun K hK => ?_); go_simp; refine hK _ _ ?_; clear hK K) | (refine pl_skip rfl (by first | (go_simp; done) | rfl) (fun K hK => ?_); go_simp; refine hK _ _ ?_; clear hK K) | (refine pl_skipa rfl (by first | (go_simp; done) | rfl) (fun K hK => ?_); go_simp; refine hK _ _ ?_; clear hK K))
      refine pl_loadm rfl (by decide) (by exact wanted_none rfl) rfl row_id HC1.out HB1.out (by first | rfl | (go_simp; done) | rfl) HV.out.len (fun K hK => ?_)
      go_simp
      refine hK _ _ ?_
      clear hK K
      repeat (first | (refine pl_calm rfl rfl (by first | exact wanted_none rfl | (go_simp; done) | rfl) (fun w_ => by first | (go_simp; rfl) | (go_simp; done) | rfl) (fun K hK => ?_); go_simp; refine hK _ _ ?_; clear hK K) | (refine pl_skip rfl (by first | (go_simp; done) | rfl) (fun K hK => ?_); go_simp; refine hK _ _ ?_; clear hK K) | (refine pl_skipa rfl (by first | (go_simp; done) | rfl) (fun K hK => ?_); go_simp; refine hK _ _ ?_; clear hK K))
      refine pl_loadm rfl (by decide) (by exact wanted_none rfl) rfl row_id HC2.out HB2.out (by first | rfl | (go_simp; done) | rfl) HV.out.len (fun K hK => ?_)
      go_simp
      refine hK _ _ ?_
      clear hK K
      repeat (first | (refine pl_calm rfl rfl (by first | exact wanted_none rfl | (go_simp; done) | rfl) (fun w_ => by first | (go_simp; rfl) | (go_simp; done) | rfl) (fun K hK => ?_); go_simp; refine hK _ _ ?_; clear hK K) | (refine pl_skip rfl (by first | (go_simp; done) | rfl) (fun K hK => ?_); go_simp; refine hK _ _ ?_; clear hK K) | (refine pl_skipa rfl (by first | (go_simp; done) | rfl) (fun K hK => ?_); go_simp; refine hK _ _ ?_; clear hK K))
      refine pl_done ?_
      go_wp2_with fail
      go_roundw
      case rel => exact ⟨k + 1, by omega, by go_num, HB⟩
      case measure => simp [intOf]; omega
    · go_wp2_with fail
      go_ret
      exact ⟨rfl, hbw.out⟩

theorem Ids.own {w : World} {base n c : Nat} {A : Option Addr} {ds : List (List UInt8)} (h : OwnI w base A n c ds) (hl : ds.length = n) (h32 : ∀ d ∈ ds, d.length = 32) (hc : n ≤ c) : Ids w A n c ds := ⟨Sl.of_own h, hl, h32, hc⟩
theorem own_cap {w : World} {base n c : Nat} {A : Option Addr} {ds : List (List UInt8)} (h : OwnI w base A n c ds) : n ≤ c := by
  rcases Nat.eq_zero_or_pos n with h0 | h0
  · omega
  · obtain ⟨_, _, _, _, h⟩ := own_form h h0; exact h
def spI (n : Nat) (ds : List (List UInt8)) : Sp := spS n (fun A c w => Ids w A n c ds) (fun _ _ _ _ h k => h.grow k)
theorem Ids.none_ (w : World) : Ids w none 0 0 [] := ⟨Sl.nil, rfl, by simp, Nat.le_refl _⟩
theorem zero_lit : Dig [.int .u8 0, .int .u8 0, .int .u8 0, .int .u8 0, .int .u8 0, .int .u8 0, .int .u8 0, .int .u8 0, .int .u8 0, .int .u8 0, .int .u8 0, .int .u8 0, .int .u8 0, .int .u8 0, .int .u8 0, .int .u8 0, .int .u8 0, .int .u8 0, .int .u8 0, .int .u8 0, .int .u8 0, .int .u8 0, .int .u8 0, .int .u8 0, .int .u8 0, .int .u8 0, .int .u8 0, .int .u8 0, .int .u8 0, .int .u8 0, .int .u8 0, .int .u8 0] (List.replicate 32 0) := ⟨by rfl, by simp⟩
theorem root7 : rootB [[7]] = leafB [7] := rootB_one _
theorem path7 : pathI [[7]] 0 = [] := by unfold pathI; rw [if_neg (by omega)]; exact pathB_none _ _ (by simp)
theorem climb7 : climbT [7] 0 1 [] = some (leafB [7]) := by unfold climbT; rw [if_neg (by omega), climbB_one _ _ _ _ (by decide)]; rfl
theorem leaf7 : leafB [7] ≠ List.replicate 32 0 := by unfold leafB; rw [under1']; decide +kernel

end Go.Proofs.Ytofhohofaedokaa

/- Layer 5, the document's answer: climbing. -/
namespace Go.Proofs.Ytofhohofaedokaa
open Go.RowKit Go.Shelf
set_option linter.unusedVariables false
attribute [local irreducible] nodeB leafB noneB

theorem none_of {α : Type} {o : Option α} (h : o.isSome = false) : o = none := by cases o with | none => rfl | some x => cases h
theorem climbT_nat {b : List UInt8} {j N : Nat} {p : List (List UInt8)} (h : j < N) (hN : N ≤ 1048576) : climbT b j N p = climbB (leafB b) j N p := by
  unfold climbT; rw [if_neg (by omega)]; rfl
end Go.Proofs.Ytofhohofaedokaa

/- Layer 5: a leaf's path climbs to the root; a path of another length climbs nowhere. No program in sight. -/
namespace Go.Proofs.Ytofhohofaedokaa
open Go.RowKit Go.Shelf
set_option linter.unusedVariables false
attribute [local irreducible] nodeB leafB noneB

theorem climb_path : ∀ (N : Nat) (l : List (List UInt8)) (i : Nat) (x : List UInt8), l.length ≤ N → l[i]? = some x → climbB (leafB x) i l.length (pathB l i) = some (rootB l) := by
  intro N
  induction N with
  | zero =>
    intro l i x hl hx
    have := (List.getElem?_eq_some_iff.1 hx).1
    omega
  | succ N ih =>
    intro l i x hl hx
    have hi := (List.getElem?_eq_some_iff.1 hx).1
    by_cases h2 : l.length < 2
    · obtain ⟨y, rfl⟩ : ∃ y, l = [y] := by
        match l, hi with
        | [y], _ => exact ⟨y, rfl⟩
        | y :: z :: r, _ => simp only [List.length_cons] at h2; omega
      have hi0 : i = 0 := by simp only [List.length_cons, List.length_nil] at hi; omega
      subst hi0
      have hxy : y = x := by simpa using hx
      subst hxy
      rw [climbB_one _ _ _ _ h2, pathB_none _ _ (.inl h2), rootB_one]; rfl
    · have h2' : 2 ≤ l.length := by omega
      have hk1 := halfN_pos l.length
      have hk2 := halfN_lt h2'
      by_cases hik : i < halfN l.length
      · rw [pathB_left l i h2' hik, climbB_left _ _ _ _ (rootB (l.drop (halfN l.length))) h2' (by simp) hik, List.dropLast_concat, rootB_more l h2']
        have hlen : (l.take (halfN l.length)).length = halfN l.length := by rw [List.length_take]; omega
        have h := ih (l.take (halfN l.length)) i x (by omega) (by rw [List.getElem?_take_of_lt hik]; exact hx)
        rw [hlen] at h
        rw [h]; rfl
      · rw [pathB_right l i h2' hi hik, climbB_right _ _ _ _ (rootB (l.take (halfN l.length))) h2' (by simp) hik, List.dropLast_concat, rootB_more l h2']
        have hlen : (l.drop (halfN l.length)).length = l.length - halfN l.length := by rw [List.length_drop]
        have h := ih (l.drop (halfN l.length)) (i - halfN l.length) x (by omega) (by rw [List.getElem?_drop, show halfN l.length + (i - halfN l.length) = i by omega]; exact hx)
        rw [hlen] at h
        rw [h]; rfl
/-- How long a path is that climbs. -/
def depB (i n : Nat) : Nat := if h : n < 2 then 0 else 1 + if i < halfN n then depB i (halfN n) else depB (i - halfN n) (n - halfN n)
termination_by n
decreasing_by
  · exact halfN_lt (by omega)
  · have := halfN_pos n; omega
theorem depB_left {i n : Nat} (h : ¬ n < 2) (hk : i < halfN n) : depB i n = 1 + depB i (halfN n) := by rw [depB, dif_neg h, if_pos hk]
theorem depB_right {i n : Nat} (h : ¬ n < 2) (hk : ¬ i < halfN n) : depB i n = 1 + depB (i - halfN n) (n - halfN n) := by rw [depB, dif_neg h, if_neg hk]
theorem climb_dep : ∀ (N n i : Nat) (d : List UInt8) (p : List (List UInt8)), n ≤ N → ((climbB d i n p).isSome = true ↔ p.length = depB i n) := by
  intro N
  induction N with
  | zero =>
    intro n i d p hn
    rw [climbB_one _ _ _ _ (by omega), depB, dif_pos (by omega)]
    by_cases hp : p = []
    · subst hp; simp
    · rw [if_neg hp]
      have : p.length ≠ 0 := fun h => hp (List.eq_nil_of_length_eq_zero h)
      simpa using this
  | succ N ih =>
    intro n i d p hn
    by_cases h2 : n < 2
    · rw [climbB_one _ _ _ _ h2, depB, dif_pos h2]
      by_cases hp : p = []
      · subst hp; simp
      · rw [if_neg hp]
        have : p.length ≠ 0 := fun h => hp (List.eq_nil_of_length_eq_zero h)
        simpa using this
    · have hk1 := halfN_pos n
      have hk2 := halfN_lt (show 2 ≤ n by omega)
      cases hl : p.getLast? with
      | none =>
        have hp : p = [] := by simpa using hl
        subst hp
        rw [climbB_nil _ _ _ (by omega), depB, dif_neg h2]
        simp only [Option.isSome_none, List.length_nil]
        constructor
        · intro h; cases h
        · intro h; omega
      | some last =>
        have hpl : p.length = p.dropLast.length + 1 := by
          have : p ≠ [] := fun h => by subst h; simp at hl
          have : 0 < p.length := List.length_pos_iff.2 this
          rw [List.length_dropLast]; omega
        by_cases hik : i < halfN n
        · rw [climbB_left _ _ _ _ last (by omega) hl hik, Option.isSome_map, ih _ _ _ _ (by omega), depB_left h2 hik]
          omega
        · rw [climbB_right _ _ _ _ last (by omega) hl hik, Option.isSome_map, ih _ _ _ _ (by omega), depB_right h2 hik]
          omega
/-- As the laws ask it. -/
theorem climbT_path {l : List (List UInt8)} {i : Nat} {x : List UInt8} (hx : l[i]? = some x) (hl : l.length ≤ 1048576) : climbT x i l.length (pathI l i) = some (rootB l) := by
  have hi := (List.getElem?_eq_some_iff.1 hx).1
  rw [climbT_nat hi hl, pathI_nat]
  exact climb_path l.length l i x (Nat.le_refl _) hx
theorem climbT_short {l : List (List UInt8)} {i : Nat} {x y : List UInt8} {q : List (List UInt8)} (hx : l[i]? = some x) (hl : l.length ≤ 1048576) (hq : q.length ≠ (pathI l i).length) : climbT y i l.length q = none := by
  have hi := (List.getElem?_eq_some_iff.1 hx).1
  have h1 := climbT_path hx hl
  rw [climbT_nat hi hl] at h1 ⊢
  have h2 := (climb_dep l.length l.length i (leafB x) (pathI l i) (Nat.le_refl _)).1 (by rw [h1]; rfl)
  have h3 := climb_dep l.length l.length i (leafB y) q (Nat.le_refl _)
  cases h : climbB (leafB y) i l.length q with
  | none => rfl
  | some z => exact absurd (h3.1 (by rw [h]; rfl)) (by rw [← h2]; exact hq)
theorem climbD_of {b : List UInt8} {i n : Int} {p : List (List UInt8)} {r : List UInt8} (h : climbT b i n p = some r) : climbD b i n p = r := by unfold climbD; rw [h]; rfl
end Go.Proofs.Ytofhohofaedokaa

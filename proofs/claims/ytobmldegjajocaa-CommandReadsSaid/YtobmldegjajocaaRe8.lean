/- Contracts of entry.Put and header.Put. Printed by mkhdr.py. -/
import Derived.Test.YtobmldegjajocaaRe7
import Derived.ChangeSame
import Derived.Deep.Slices
import Derived.Laws.ResultCell
set_option linter.unusedSimpArgs false
set_option linter.unusedVariables false
set_option maxRecDepth 100000
set_option maxHeartbeats 16000000
namespace Go.Proofs.Ytobmldegjajocaa
open Go.RowKit Go.Shelf
theorem zero_pen : (Try.prog.info? 62).map (·.zero) = some (some (.agg [Value.slice none 0 0].toArray)) := by kernel_rfl
theorem conv_u64 {n : Nat} (h : n ≤ 18446744073709551615) : IntKind.u64.wrap (n : Int) = (n : Int) := by rw [IntKind.wrap_u64]; omega
theorem dig_map {d : List UInt8} (h : d.length = 32) : Dig (d.map B) d := ⟨rfl, h⟩
def eformB (x : Ent) : List UInt8 := if rightE x = true then putEB x else []
def hformB (x : Hdr) : List UInt8 := if rightH x = true then putHB x else []
theorem nat_of {z : Int} (h : 0 ≤ z) : ∃ n : Nat, z = (n : Int) := ⟨z.toNat, by omega⟩
theorem midE {x : Ent} (h : x.ok) {w : World} {g : Nat} {t : TypeId} (hb : Blk w g t (entV x)) : ∀ j u, (x.tx.map B)[j]? = some u → w.cell? ⟨g, 2 + j, none⟩ = some u := by
 intro j u hj;refine hb.at_ ?_;have hl : j < (x.tx.map B).length := (List.getElem?_eq_some_iff.1 hj).1;unfold entV;rw [show 2 + j = j + 1 + 1 by omega, List.getElem?_cons_succ, List.getElem?_cons_succ, List.getElem?_append_left hl]; exact hj
theorem midP {x : Hdr} (h : x.ok) {w : World} {g : Nat} {t : TypeId} (hb : Blk w g t (hdrV x)) : ∀ j u, (x.prev.map B)[j]? = some u → w.cell? ⟨g, 3 + j, none⟩ = some u := by
 intro j u hj;refine hb.at_ ?_;have hl : j < (x.prev.map B).length := (List.getElem?_eq_some_iff.1 hj).1;unfold hdrV;rw [show 3 + j = j + 1 + 1 + 1 by omega, List.getElem?_cons_succ, List.getElem?_cons_succ, List.getElem?_cons_succ, List.getElem?_append_left hl]; exact hj
theorem midR {x : Hdr} (h : x.ok) {w : World} {g : Nat} {t : TypeId} (hb : Blk w g t (hdrV x)) : ∀ j u, (x.root.map B)[j]? = some u → w.cell? ⟨g, 35 + j, none⟩ = some u := by
 intro j u hj;refine hb.at_ ?_;have hl : (x.prev.map B).length = 32 := by rw [List.length_map, h.2.2.2.1]
 unfold hdrV;rw [show 35 + j = (32 + j) + 1 + 1 + 1 by omega, List.getElem?_cons_succ, List.getElem?_cons_succ, List.getElem?_cons_succ, List.getElem?_append_right (by omega), hl, show 32 + j - 32 = j by omega]; exact hj
theorem eput_any (x : Ent) (w : World) (hx : x.ok) : Calls Try.prog 60 #[.agg (entV x).toArray] w fun e w' => ∃ A c, e = .returned (.tuple #[.slice A (eformB x).length c, .bool (rightE x)]) ∧ Sl w' w'.heap.size 1 A (eformB x).length ((eformB x).map B) ∧ (eformB x).length ≤ c ∧ Grow w w' := by
 have HR := kp (fun w => eright_any x w hx);have HXO := kp hx;have HL := kp (entV_length hx);obtain ⟨r, hr⟩ := xe (rightE x);have HRR := kp hr;unfold eformB;rw [← hr] at HR ⊢;clear hr hx;obtain ⟨cs, hcs⟩ := xe (entV x);have HCS := kp hcs;rw [← hcs] at HR HL ⊢;clear hcs;obtain ⟨gh, hgh⟩ := xe w.heap.size;have HG := kp hgh
 go_enter Try.func60, Try.ntmps60
 go_wp2_with (with_reducible refine wbx 1 ?_);intro w1 hb1 hbw1 hsz1;rw [← hgh] at hb1 hbw1 hsz1 ⊢;have HH := kp hb1;have HB := kq (Grow w w1) (by rw [hgh] at hbw1; exact hbw1);clear hb1 hbw1 hsz1 hgh;go_wp2_with (with_reducible refine wlb 5 row_entry HH.o HL.o ?_);refine (HR.o _).mono ?_;rintro e w_ ⟨rfl, y_⟩;replace HH := kp (HH.o.call y_);replace HB := kp (HB.o.grow' y_);clear y_;try clear w1
 cases r with
 | false =>
  go_wp2_with fail
  go_ret2
  exact ⟨none, ⟨0, rfl⟩, Sl.nil, HB.o⟩
 | true =>
  obtain ⟨⟨hk1, hk2⟩, ⟨hs1, hs2⟩, ha2, ⟨hy1, hy2⟩, hp1, hp2⟩ := rightE_iff.1 HRR.o.symm;obtain ⟨_, _, htx, ⟨ha1, _⟩, _, _⟩ := HXO.o;obtain ⟨xk, xs, tx, xa, xy, xp⟩ := x;obtain ⟨nk, rfl⟩ := nat_of (show 0 ≤ xk by simp only at hk1; omega);obtain ⟨ns, rfl⟩ := nat_of hs1;obtain ⟨na, rfl⟩ := nat_of ha1;obtain ⟨ny, rfl⟩ := nat_of hy1;obtain ⟨np, rfl⟩ := nat_of hp1;simp only at hk1 hk2 hs2 ha2 hy2 hp2 htx;have hDT := kp (dig_map htx);have HFL := kp (putEB_len HXO.o HRR.o.symm);have HEF := kq ((if true = true then putEB ⟨(nk : Int), (ns : Int), tx, (na : Int), (ny : Int), (np : Int)⟩ else []) = putEB ⟨(nk : Int), (ns : Int), tx, (na : Int), (ny : Int), (np : Int)⟩) rfl;have uk := conv_u64 (n := nk) (by omega); have us := conv_u64 (n := ns) (by omega); have uy := conv_u64 (n := ny) (by omega); have up := conv_u64 (n := np) (by omega);have lk := numB_le (n := nk) (by omega); have ls := numB_le (n := ns) (by omega); have la := numB_le (n := na) (by omega); have ly := numB_le (n := ny) (by omega);have HFE := kq (putEB ⟨(nk : Int), (ns : Int), tx, (na : Int), (ny : Int), (np : Int)⟩ = numB nk ++ numB ns ++ tx ++ numB na ++ numB ny ++ numB np) (by unfold putEB; simp only [Int.toNat_natCast]);rw [HFE.o] at HFL HEF;go_wp2_with (with_reducible refine wal 4 zero_pen ?_);intro w3 hb3 hbw3 hsz3;obtain ⟨g, hg⟩ := xe w_.heap.size;rw [← hg] at hb3 hsz3 hbw3 ⊢;obtain ⟨K, hK⟩ : ∃ K : Nat → Prop, K = fun k => k < g := ⟨_, rfl⟩
  have hKI : ∀ k, K k ↔ k < g := fun k => by rw [hK]
  have HP := kp (PenAt.new (K := K) hb3 (fun k hk => by have := (hKI k).1 hk; omega));have HKH := kq (K gh) (by have := HH.o.lt; exact (hKI gh).2 (by omega));have HKW := kq (∀ k, k < w.heap.size → K k) (fun k hk => (hKI k).2 (by have := HB.o.size; omega));have HB3 := kq (Grow w w3) (HB.o.grow' (by rw [hg] at hbw3; exact hbw3));replace HH := kp (HH.o.below hbw3 (by have := HH.o.lt; omega));clear hb3 hbw3 hsz3 hK hKI HB hg;rw [HCS.o] at HH;clear HCS HR HRR HL;obtain ⟨w0, rfl⟩ : ∃ w0 : World, w0 = w3 := ⟨_, rfl⟩;try clear w_
  have c0 := HH.o.at_ (ent_at HXO.o).1;obtain ⟨w_, hw_⟩ : ∃ w_ : World, w_ = w0 := ⟨_, rfl⟩;rw [← hw_] at HP HH c0 ⊢;have HKK := kq (Kept K w0 w_) (by rw [hw_]; exact Kept.refl _ _);clear hw_;clear c0;have c0 := HH.o.at_ (ent_at HXO.o).1;go_wp2_with fail;refine (num_any g nk K ([]) _ HP.o (by simp) (by omega)).mono ?_;rintro e v_ ⟨rfl, hp_, hk_⟩;have HH_ := kp (hk_.blk HH.o HKH.o);have HKK_ := kp (HKK.o.trans hk_);have HP_ := kp hp_;clear hp_ hk_ HH HKK HP;have HH := HH_;have HKK := HKK_;have HP := HP_;clear HH_ HKK_ HP_;try clear w_
  rename World => w_;try clear c0
  have c0 := HH.o.at_ (ent_at HXO.o).2.1;go_wp2_with fail;refine (num_any g ns K ([] ++ numB nk) _ HP.o (by simp only [List.length_append, List.length_nil]; omega) (by omega)).mono ?_;rintro e v_ ⟨rfl, hp_, hk_⟩;have HH_ := kp (hk_.blk HH.o HKH.o);have HKK_ := kp (HKK.o.trans hk_);have HP_ := kp hp_;clear hp_ hk_ HH HKK HP;have HH := HH_;have HKK := HKK_;have HP := HP_;clear HH_ HKK_ HP_;try clear w_
  rename World => w_;try clear c0
  have hm_ := midE HXO.o HH.o;go_wp2_with (with_reducible first | refine wpl_loadm (o := ⟨some 17, _, _, _, _, _⟩) rfl rfl row_aid hm_ rfl (by rw [List.length_map]; exact htx) ?_);refine (pid_any g K ([] ++ numB nk ++ numB ns) hDT.o _ HP.o (by simp only [List.length_append, List.length_nil]; omega)).mono ?_;rintro e v_ ⟨rfl, hp_, hk_⟩;have HH_ := kp (hk_.blk HH.o HKH.o);have HKK_ := kp (HKK.o.trans hk_);have HP_ := kp hp_;clear hp_ hk_ HH HKK HP;have HH := HH_;have HKK := HKK_;have HP := HP_;clear HH_ HKK_ HP_;try clear w_
  rename World => w_;try clear hm_
  have c0 := HH.o.at_ (ent_at HXO.o).2.2.1;go_wp2_with fail;refine (num_any g na K ([] ++ numB nk ++ numB ns ++ tx) _ HP.o (by simp only [List.length_append, List.length_nil]; omega) (by omega)).mono ?_;rintro e v_ ⟨rfl, hp_, hk_⟩;have HH_ := kp (hk_.blk HH.o HKH.o);have HKK_ := kp (HKK.o.trans hk_);have HP_ := kp hp_;clear hp_ hk_ HH HKK HP;have HH := HH_;have HKK := HKK_;have HP := HP_;clear HH_ HKK_ HP_;try clear w_
  rename World => w_;try clear c0
  have c0 := HH.o.at_ (ent_at HXO.o).2.2.2.1;go_wp2_with fail;refine (num_any g ny K ([] ++ numB nk ++ numB ns ++ tx ++ numB na) _ HP.o (by simp only [List.length_append, List.length_nil]; omega) (by omega)).mono ?_;rintro e v_ ⟨rfl, hp_, hk_⟩;have HH_ := kp (hk_.blk HH.o HKH.o);have HKK_ := kp (HKK.o.trans hk_);have HP_ := kp hp_;clear hp_ hk_ HH HKK HP;have HH := HH_;have HKK := HKK_;have HP := HP_;clear HH_ HKK_ HP_;try clear w_
  rename World => w_;try clear c0
  have c0 := HH.o.at_ (ent_at HXO.o).2.2.2.2;go_wp2_with fail;refine (num_any g np K ([] ++ numB nk ++ numB ns ++ tx ++ numB na ++ numB ny) _ HP.o (by simp only [List.length_append, List.length_nil]; omega) (by omega)).mono ?_;rintro e v_ ⟨rfl, hp_, hk_⟩;have HH_ := kp (hk_.blk HH.o HKH.o);have HKK_ := kp (HKK.o.trans hk_);have HP_ := kp hp_;clear hp_ hk_ HH HKK HP;have HH := HH_;have HKK := HKK_;have HP := HP_;clear HH_ HKK_ HP_;try clear w_
  rename World => w_;try clear c0
  go_wp2_with fail;refine (pbytes_any g K ([] ++ numB nk ++ numB ns ++ tx ++ numB na ++ numB ny ++ numB np) _ HP.o (by simp only [List.length_append, List.length_nil]; have := HFL.o; simp only [List.length_append] at this; omega)).mono ?_;rintro e w5 ⟨A', c', rfl, ho, hc, hg5⟩;have HO := kp (Sl.of_own ho);have HC := kp hc;have HB5 := kq (Grow w w5) ((Below.trans (B := w.heap.size) HB3.o (HKK.o.below HKW.o)).grow' hg5);clear ho hc hg5;rw [List.nil_append] at HO HC;go_wp2_with fail
  go_ret2
  rw [HFE.o];exact ⟨A', c', by simp [List.length_append, htx], HO.o, HC.o, HB5.o⟩
def turnTo (p : List UInt8) (m : UInt8) (k : Nat) : List UInt8 := (p.take k).map (· ^^^ m)
attribute [irreducible] turnTo
theorem xor54 (x : UInt8) : Op.intBits .xor .u8 (b8 x) 54 = pure (.int .u8 (b8 (x ^^^ 54))) := xor_b x 54
theorem xor92 (x : UInt8) : Op.intBits .xor .u8 (b8 x) 92 = pure (.int .u8 (b8 (x ^^^ 92))) := xor_b x 92
def zero8 : UInt8 := 0
theorem xor54z : Op.intBits .xor .u8 0 54 = pure (.int .u8 (b8 (zero8 ^^^ 54))) := xor_b 0 54
theorem xor92z : Op.intBits .xor .u8 0 92 = pure (.int .u8 (b8 (zero8 ^^^ 92))) := xor_b 0 92
attribute [irreducible] zero8
attribute [local go_sem high] xor54 xor92 xor54z xor92z
end Go.Proofs.Ytobmldegjajocaa
namespace Go.Proofs.Ytobmldegjajocaa
open Go.RowKit Go.ChangeShapes Go.WideShapes
section
variable {H : Type} {enc : TypeId × Value → H} {P : Program} {w : World} {base : Nat} {spare : Nat → Bool} {held : Bool}
end
end Go.Proofs.Ytobmldegjajocaa
namespace Go.Proofs.Ytobmldegjajocaa
open Go.RowKit Go.ChangeShapes Go.WideShapes Go.Deep
section
variable {H : Type} {enc : TypeId × Value → H} {P : Program} {w : World} {r : Reach} {b0 base : Nat} {spare : Nat → Bool} {held : Bool}
theorem flat_len {α : Type} {f : α → List Value} {sz : Nat} : ∀ {l : List α}, (∀ x ∈ l, (f x).length = sz) → (l.flatMap f).length = l.length * sz
 | [], _ => by simp
 | x :: l, h => by
  rw [List.flatMap_cons, List.length_append, h x (by simp), flat_len (l := l) (fun y hy => h y (by simp [hy])), List.length_cons, Nat.succ_mul, Nat.add_comm]
theorem flat_at {α : Type} {f : α → List Value} {sz : Nat} : ∀ {l : List α}, (∀ x ∈ l, (f x).length = sz) → 0 < sz → ∀ {j : Nat} {u : Value}, (l.flatMap f)[j]? = some u → ∃ x, l[j / sz]? = some x ∧ (f x)[j % sz]? = some u
 | [], _, _, j, u, hu => by simp at hu
 | x :: l, h, h0, j, u, hu => by
  rw [List.flatMap_cons] at hu;have hx := h x (by simp);by_cases hj : j < sz
  ·rw [List.getElem?_append_left (by omega)] at hu;refine ⟨x, by rw [Nat.div_eq_of_lt hj]; rfl, by rw [Nat.mod_eq_of_lt hj]; exact hu⟩
  ·rw [List.getElem?_append_right (by omega), hx] at hu;obtain ⟨y, h1, h2⟩ := flat_at (l := l) (fun y hy => h y (by simp [hy])) h0 hu;have e1 : j / sz = (j - sz) / sz + 1 := by rw [← Nat.div_eq_sub_div h0 (by omega)]
   have e2 : j % sz = (j - sz) % sz := by rw [Nat.mod_eq_sub_mod (by omega)]
   exact ⟨y, by rw [e1, List.getElem?_cons_succ]; exact h1, by rw [e2]; exact h2⟩
theorem open_list0 {α : Type} [Inhabited α] (f : α → List Value) (ok : α → Prop) {t e : TypeId} {fuel : Nat} {cs : List Value} {y : DataW H × List MemPlace} {sz : Nat} (ht : P.underlying t = some (.slice e)) (hce : P.cellsOf e = sz) (hsz : 0 < sz)
  (helem : ∀ fuel cs y, cs.length = sz → DataW.trod enc P w base spare held fuel e cs = some y → ∃ x, cs = f x ∧ ok x)
  (hf : DataW.trod enc P w base spare held fuel t cs = some y) :
  ∃ A n c, ∃ l : List α, cs = [.slice A n c] ∧ l.length = n ∧ n ≤ c ∧ c ≤ maxLen ∧ Sl w w.heap.size sz A n (l.flatMap f) ∧ (∀ x ∈ l, ok x) ∧ (∀ x ∈ l, (f x).length = sz) := by
 rcases open_slice ht hf with ⟨hcs, _⟩ | ⟨a, n, c, m, k, D, Pl, hcs, _, hl, hm, hmm, _, hx⟩
 ·subst hcs;exact ⟨none, 0, 0, [], rfl, rfl, Nat.le_refl _, Nat.zero_le _, ⟨by simp, fun h => absurd h (by omega)⟩, by simp, by simp⟩
 ·subst hcs;have hle : n ≤ m := by rw [hmm]; split <;> omega
  rw [hce] at hx
  obtain ⟨X, hX⟩ := choose_lt (n := n) (p := fun i (x : α) => w.cells? base (a.add (i * sz)) sz = some (f x) ∧ (f x).length = sz ∧ ok x) (fun i hi => by
   obtain ⟨cs', h1, h2⟩ := hx i (by omega);obtain ⟨_, hlen, _⟩ := World.cells?_some h1;obtain ⟨x, e, hok⟩ := helem _ _ _ hlen h2
   exact ⟨x, by rw [← e]; exact h1, by rw [← e]; exact hlen, hok⟩)
  have hlen : ∀ x ∈ (List.range n).map X, (f x).length = sz := by
   intro x hx;obtain ⟨i, hi, rfl⟩ := List.mem_map.1 hx;exact (hX i (by simpa using hi)).2.1
  refine ⟨some a, n, c, (List.range n).map X, rfl, by simp, hl, hm, ⟨by rw [flat_len hlen]; simp, fun hn => ?_⟩, ?_, hlen⟩
  ·obtain ⟨b, off, spot⟩ := a;obtain ⟨_, _, h0⟩ := World.cells?_some (hX 0 hn).1;have h00 := h0 0 hsz;have hc0 : ∃ u, w.cell? ((Addr.add ⟨b, off, spot⟩ (0 * sz)).add 0) = some u := ⟨_, by rw [h00, List.getElem?_eq_getElem (by rw [(hX 0 hn).2.1]; exact hsz)]⟩;obtain ⟨u0, hu0⟩ := hc0;have hspot : spot = none := by simpa [Addr.add] using World.cell?_spot hu0
   subst hspot;refine ⟨b, off, rfl, by have := World.block_lt_of_cell? w _ hu0; simpa [Addr.add] using this, fun j u hu => ?_⟩;obtain ⟨x, h1, h2⟩ := flat_at hlen hsz hu;rw [List.getElem?_map] at h1;obtain ⟨i, h3, rfl⟩ := Option.map_eq_some_iff.1 h1
   have hi : j / sz = i ∧ i < n := by
    rcases Nat.lt_or_ge (j / sz) n with hl | hl
    ·rw [List.getElem?_range hl] at h3; cases h3; exact ⟨rfl, hl⟩
    ·rw [List.getElem?_eq_none (by simpa using hl)] at h3; cases h3
   obtain ⟨_, _, hc⟩ := World.cells?_some (hX i hi.2).1;have := hc (j % sz) (Nat.mod_lt _ hsz);rw [h2, Addr.add_lit, Addr.add_lit] at this;rw [← this, ← hi.1];have := Nat.div_add_mod j sz;have e : off + j = off + j / sz * sz + j % sz := by rw [Nat.mul_comm] at this; omega
   rw [e]
  ·intro x hx;obtain ⟨i, hi, rfl⟩ := List.mem_map.1 hx;exact (hX i (by simpa using hi)).2.2
theorem open_list {α : Type} [Inhabited α] (f : α → List Value) (ok : α → Prop) {t e : TypeId} {v : Value} {d : DataW H} {ps : List MemPlace} {sz : Nat} (ht : P.underlying t = some (.slice e)) (hce : P.cellsOf e = sz) (hsz : 0 < sz)
  (helem : ∀ fuel cs y, cs.length = sz → DataW.trod enc P w base spare held fuel e cs = some y → ∃ x, cs = f x ∧ ok x)
  (hval : Value.okWide P w r b0 t v) (h : DataW.Trod enc P w base spare held t v d ps) :
  ∃ A n c, ∃ l : List α, v = .slice A n c ∧ l.length = n ∧ n ≤ c ∧ c ≤ maxLen ∧ Sl w w.heap.size sz A n (l.flatMap f) ∧ (∀ x ∈ l, ok x) ∧ (∀ x ∈ l, (f x).length = sz) := by
 obtain ⟨A, n, c, rfl⟩ := okWide_slice ht hval;obtain ⟨fuel, hf⟩ := h;obtain ⟨A', n', c', l, h1, hr⟩ := open_list0 f ok ht hce hsz helem hf;have h1 : A = A' ∧ n = n' ∧ c = c' := by simpa [Value.cells] using h1
 obtain ⟨rfl, rfl, rfl⟩ := h1;exact ⟨A, n, c, l, rfl, hr⟩
theorem flat_one {α : Type} (g : α → Value) (l : List α) : l.flatMap (fun x => [g x]) = l.map g := by
 induction l with
 | nil => rfl
 | cons x l ih => simp [ih]
theorem trod_u8 {e : TypeId} (he : P.underlying e = some (.int .u8)) {fuel : Nat} {cs : List Value} {y : DataW H × List MemPlace} (h : DataW.trod enc P w base spare held fuel e cs = some y) : ∃ x : UInt8, cs = [B x] ∧ True := by
 obtain ⟨z, h1, _, h2⟩ := DataW.trod_int he h;have hz := bounds_u8 h2;refine ⟨UInt8.ofNat z.toNat, ?_, trivial⟩;rw [h1];simp only [B, b8]
 congr 2
 rw [UInt8.toNat_ofNat']; omega
theorem open_u8s {t e : TypeId} {v : Value} {d : DataW H} {ps : List MemPlace} (ht : P.underlying t = some (.slice e)) (he : P.underlying e = some (.int .u8)) (hce : P.cellsOf e = 1) (hval : Value.okWide P w r b0 t v) (h : DataW.Trod enc P w base spare held t v d ps) :
  ∃ A n c, ∃ bs : List UInt8, v = .slice A n c ∧ Sl w w.heap.size 1 A n (bs.map B) ∧ n ≤ c ∧ c ≤ maxLen := by
 obtain ⟨A, n, c, l, h1, h2, h3, h4, h5, _⟩ := open_list (fun x : UInt8 => [B x]) (fun _ => True) ht hce (by omega) (fun fuel cs y _ h => trod_u8 he h) hval h;exact ⟨A, n, c, l, h1, by rw [← flat_one]; exact h5, h3, h4⟩
end
end Go.Proofs.Ytobmldegjajocaa
namespace Go.Proofs.Ytobmldegjajocaa
open Go.RowKit Go.Shelf
theorem ret_cell2 {P : Program} {w : World} {a : Act} {fn : Func} {p u : Tmp} {ty : TypeId} (h : fn.results = #[.cell p ty, .tmp u]) {n : Nat} (hT : RowT P ty n) {g : Nat} {t : TypeId} {cs : List Value} (hb : Blk w g t cs) (hp : a.tmps.getD p undef = .pointer (some ⟨g, 0, none⟩)) (hn : cs.length = n) (hd : a.defers = [])
  {v : Value} (hv : a.tmps.getD u undef = v) {R : Ending → World → Prop} (hR : R (.returned (.tuple #[.agg cs.toArray, v])) w) : bodyPost P fn R .ret a w := by
 obtain ⟨d, hu, hdd, hi⟩ := hT;refine bodyPost_ret ?_ hd hR;rw [results_cell_tmp h, hp, hv];have hrun := run_loadVar_row (P := P) w g t ty cs.toArray (0, 0) d hb hu (by revert hdd; cases d <;> simp) (by rw [hi]; simp [hn]);simp only [asAddr, Sem.run_pure, Result.andThen_ok, hrun]
theorem info_id : (Try.prog.info? 29).map (fun i => (i.zero, i.size, i.bytes)) = some (some (.agg (List.replicate 32 (B 0)).toArray), 32, 32) := by kernel_rfl
theorem el_id : ElemT Try.prog 55 29 32 32 := elemT Try.underlying55 info_id rfl (by omega)
theorem fold_set_aux : ∀ (ys : List Value) (k : Nat) (z : Array Value), z.size = k + ys.length → ((ys.zipIdx k).foldl (fun cs x => cs.setIfInBounds x.2 x.1) z).toList = z.toList.take k ++ ys
 | [], k, z, h => by
  simp only [List.zipIdx_nil, List.foldl_nil, List.append_nil];rw [List.take_of_length_le (by simpa using Nat.le_of_eq h)]
 | y :: ys, k, z, h => by
  rw [List.zipIdx_cons, List.foldl_cons, fold_set_aux ys (k + 1) _ (by simp only [Array.size_setIfInBounds, List.length_cons] at *; omega)];simp only [Array.toList_setIfInBounds];have hk : k < z.toList.length := by simp only [List.length_cons, Array.length_toList] at *; omega
  rw [List.take_add_one, List.getElem?_set_self hk, Option.toList_some, List.take_set_of_le (Nat.le_refl _), List.append_assoc]
  rfl
theorem fold_set (z : Array Value) (ys : List Value) (h : z.size = ys.length) : (ys.zipIdx.foldl (fun cs x => cs.setIfInBounds x.2 x.1) z).toList = ys := by
 have := fold_set_aux ys 0 z (by omega);simpa using this
def idCells (ds : List (List UInt8)) : List Value := ds.flatMap (·.map B)
theorem idCells_snoc (ds : List (List UInt8)) (d : List UInt8) : idCells (ds ++ [d]) = idCells ds ++ d.map B := by unfold idCells; simp
def Ids (w : World) (A : Option Addr) (n c : Nat) (ds : List (List UInt8)) : Prop := Sl w w.heap.size 32 A n (idCells ds) ∧ ds.length = n ∧ (∀ d ∈ ds, d.length = 32) ∧ n ≤ c
theorem Ids.grow {w w' : World} {A : Option Addr} {n c : Nat} {ds : List (List UInt8)} (h : Ids w A n c ds) (k : Grow w w') : Ids w' A n c ds := ⟨h.1.grow k, h.2⟩
theorem Ids.key {w : World} {A : Option Addr} {n c k : Nat} {ds : List (List UInt8)} (h : Ids w A n c ds) (hk : k < n) : ∃ b off d, A = some ⟨b, off, none⟩ ∧ ds[k]? = some d ∧ d.length = 32 ∧ b < w.heap.size ∧ ∀ j u, (d.map B)[j]? = some u → w.cell? ⟨b, off + k * 32 + j, none⟩ = some u := by
 obtain ⟨h1, h2, h3, h4⟩ := h;obtain ⟨b, off, e, hb, hc⟩ := h1.2 (by omega);have hlen : ∀ x ∈ ds, (x.map B).length = 32 := fun x hx => by rw [List.length_map]; exact h3 x hx
 have hd : ds[k]? = some (ds[k]'(by omega)) := List.getElem?_eq_getElem (by omega);refine ⟨b, off, _, e, hd, h3 _ (List.mem_of_getElem? hd), hb, fun j u hu => ?_⟩;have hj : j < 32 := by have := (List.getElem?_eq_some_iff.1 hu).1; rw [List.length_map, h3 _ (List.mem_of_getElem? hd)] at this; exact this
 have hfl : (idCells ds).length = ds.length * 32 := flat_len hlen;have hi : k * 32 + j < (idCells ds).length := by rw [hfl]; omega
 obtain ⟨x, hx, hxj⟩ := flat_at hlen (by omega) (List.getElem?_eq_getElem hi);have e1 : (k * 32 + j) / 32 = k := by omega
 have e2 : (k * 32 + j) % 32 = j := by omega
 rw [e1, hd] at hx;cases hx
 rw [e2, hu] at hxj;have := hc (k * 32 + j) u (by rw [List.getElem?_eq_getElem hi]; exact hxj.symm);rw [Nat.add_assoc]; exact this
def pathB (l : List (List UInt8)) (i : Nat) : List (List UInt8) :=
 if h : l.length < 2 ∨ l.length ≤ i then [] else
 if i < halfN l.length then pathB (l.take (halfN l.length)) i ++ [rootB (l.drop (halfN l.length))] else pathB (l.drop (halfN l.length)) (i - halfN l.length) ++ [rootB (l.take (halfN l.length))]
termination_by l.length
decreasing_by
 ·rw [List.length_take]; have := halfN_lt (n := l.length) (by omega); omega
 ·rw [List.length_drop]; have := halfN_pos l.length; omega
def pathI (l : List (List UInt8)) (i : Int) : List (List UInt8) := if i < 0 then [] else pathB l i.toNat
def OwnI (w : World) (base : Nat) (A : Option Addr) (n c : Nat) (ds : List (List UInt8)) : Prop := w.ownsRow base 29 32 (.slice A n c) n (idCells ds)
theorem OwnI.grow {w w' : World} {base n c : Nat} {A : Option Addr} {ds : List (List UInt8)} (h : OwnI w base A n c ds) (k : Grow w w') : OwnI w' base A n c ds := own_below h k
attribute [local irreducible] pathI
end Go.Proofs.Ytobmldegjajocaa
namespace Go.Proofs.Ytobmldegjajocaa
open Go.RowKit Go.Shelf
attribute [local irreducible] nodeB leafB
theorem pl_loadm {P : Program} {ops : Array Oper} {cl : List Nat} {Q : Exit → Act → World → Prop} {o : Oper} {i : Nat} {t : Plan} {a : Act} {w : World} {T : TypeId} {x : Operand} {n b off : Nat} {cs : List Value} (hi : ops[i]? = some o) (hc : plCls cl i = 1 ∨ plCls cl i = 2) (hw : Region.wanted o (yielded ops a.tmps) = true) (ho : o.op = .load T x) (hT : RowT P T n)
  (hcell : ∀ j u, cs[j]? = some u → w.cell? ⟨b, off + j, none⟩ = some u) (hbz : b < w.heap.size) (hx : a.eval x = .pointer (some ⟨b, off, none⟩)) (hn : cs.length = n)
  (hk : ∀ K : Act → World → Prop, (∀ a w, wpS P ops Grow cl Q t a w → K a w) → K (a.put o.dst (.agg cs.toArray)) w) : wpS P ops Grow cl Q (.get i t) a w := by
 have hrun : ∀ w', Grow w w' → (execOp a.eval o).run P w' = .ok (.value (.agg cs.toArray)) w' := by
  intro w' hf;obtain ⟨d, hu, hd, hi⟩ := hT;have h := run_loadVar_mid (P := P) w' b off T cs d (fun j u hu => (hf.cell (show (⟨b, off + j, none⟩ : Addr).block < w.heap.size from hbz)).trans (hcell j u hu)) hu (by cases d <;> simp_all) (by rw [hi, hn]);unfold execOp;simp only [ho, hx, Instr.loadAt, Instr.sureAddr, Sem.run_bind, Sem.run_pure, Result.andThen_ok, h]
 rcases hc with hc | hc
 ·exact pl_read hi hc hw hrun hk
 ·exact pl_now hi hc hw (hrun w (Grow.refl w)) hk
end Go.Proofs.Ytobmldegjajocaa
namespace Go.Proofs.Ytobmldegjajocaa
open Go.RowKit Go.Shelf
theorem Ids.up {w w' : World} {A : Option Addr} {n c : Nat} {ds : List (List UInt8)} (h : Ids w A n c ds) (hb : Below w.heap.size w w') : Ids w' A n c ds := h.grow hb
attribute [local irreducible] nodeB leafB
end Go.Proofs.Ytobmldegjajocaa
namespace Go.Proofs.Ytobmldegjajocaa
open Go.RowKit Go.Shelf
attribute [local irreducible] nodeB leafB
end Go.Proofs.Ytobmldegjajocaa
namespace Go.Proofs.Ytobmldegjajocaa
open Go.RowKit Go.Shelf
attribute [local irreducible] nodeB leafB noneB
theorem Ids.own {w : World} {base n c : Nat} {A : Option Addr} {ds : List (List UInt8)} (h : OwnI w base A n c ds) (hl : ds.length = n) (h32 : ∀ d ∈ ds, d.length = 32) (hc : n ≤ c) : Ids w A n c ds := ⟨Sl.of_own h, hl, h32, hc⟩
theorem own_cap {w : World} {base n c : Nat} {A : Option Addr} {ds : List (List UInt8)} (h : OwnI w base A n c ds) : n ≤ c := by
 rcases Nat.eq_zero_or_pos n with h0 | h0
 ·omega
 ·obtain ⟨_, _, _, _, h⟩ := own_form h h0; exact h
theorem Ids.none_ (w : World) : Ids w none 0 0 [] := ⟨Sl.nil, rfl, by simp, Nat.le_refl _⟩
end Go.Proofs.Ytobmldegjajocaa
namespace Go.Proofs.Ytobmldegjajocaa
open Go.RowKit Go.Shelf
attribute [local irreducible] nodeB leafB noneB
end Go.Proofs.Ytobmldegjajocaa
namespace Go.Proofs.Ytobmldegjajocaa
open Go.RowKit Go.Shelf
attribute [local irreducible] nodeB leafB noneB
end Go.Proofs.Ytobmldegjajocaa

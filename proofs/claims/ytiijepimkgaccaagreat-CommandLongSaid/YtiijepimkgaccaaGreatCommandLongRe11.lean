/- Headers and entries: their forms, digests, and who follows whom (plain). -/
import Derived.Test.YtiijepimkgaccaaGreatCommandLongRe10
import Derived.Test.YtiijepimkgaccaaGreatCommandLongRe5
set_option linter.unusedSimpArgs false
set_option linter.unusedVariables false
set_option maxRecDepth 100000
set_option maxHeartbeats 16000000
namespace Go.Proofs.YtiijepimkgaccaaGreat
open Go.RowKit
def putEB (e : Ent) : List UInt8 := numB e.kind.toNat ++ numB e.shard.toNat ++ e.tx ++ numB e.amount.toNat ++ numB e.why.toNat ++ numB e.epoch.toNat
def putHB (h : Hdr) : List UInt8 := numB h.shard.toNat ++ numB h.height.toNat ++ numB h.epoch.toNat ++ h.prev ++ h.root
def zeroD : List UInt8 := List.replicate 32 0
def hidB (h : Hdr) : List UInt8 := if rightH h = true then sha (underB 11 [putHB h]) else zeroD
theorem hidB_len (h : Hdr) : (hidB h).length = 32 := by unfold hidB; split <;> simp [sha_length, zeroD]
def leavesB (c : List UInt8) (e : Ent) (i : Int) : List (List UInt8) := if rightE e = true ∧ i ≤ 4611686018427387904 then [c, putEB e, numB i.toNat] else []
def nextH (p : Hdr) (first : Bool) (ls : List (List UInt8)) (s ep : Int) : Hdr := if first = true then ⟨s, 1, ep, zeroD, rootB ls⟩ else ⟨p.shard, p.height + 1, ep, hidB p, rootB ls⟩
def nextOK (p : Hdr) (first : Bool) (ls : List (List UInt8)) (s ep : Int) : Bool := decide (ls.length = 3) && (first || rightH p && decide (p.epoch ≤ ep)) && rightH (nextH p first ls s ep)
def nextB (p : Hdr) (first : Bool) (ls : List (List UInt8)) (s ep : Int) : Hdr := if nextOK p first ls s ep = true then nextH p first ls s ep else noHdr
theorem inB_iff {n lo hi : Int} : inB n lo hi = true ↔ lo ≤ n ∧ n ≤ hi := by unfold inB; simp
theorem rightE_iff {e : Ent} : rightE e = true ↔ (1 ≤ e.kind ∧ e.kind ≤ 3) ∧ (0 ≤ e.shard ∧ e.shard ≤ 63) ∧ e.amount ≤ 4611686018427387904 ∧ (0 ≤ e.why ∧ e.why ≤ 63) ∧ (0 ≤ e.epoch ∧ e.epoch ≤ 1099511627776) := by
 unfold rightE; simp only [Bool.and_eq_true, inB_iff, decide_eq_true_eq]; constructor <;> (intro h; omega)
theorem rightH_iff {h : Hdr} : rightH h = true ↔ (0 ≤ h.shard ∧ h.shard ≤ 63) ∧ (1 ≤ h.height ∧ h.height ≤ 1099511627776) ∧ (0 ≤ h.epoch ∧ h.epoch ≤ 1099511627776) := by
 unfold rightH; simp only [Bool.and_eq_true, inB_iff]; constructor <;> (intro h; omega)
theorem putHB_len {h : Hdr} (hk : h.ok) (hr : rightH h = true) : (putHB h).length ≤ 91 := by
 have hr := rightH_iff.1 hr;have h1 := numB_le (n := h.shard.toNat) (by omega);have h2 := numB_le (n := h.height.toNat) (by omega);have h3 := numB_le (n := h.epoch.toNat) (by omega);have h4 := hk.2.2.2.1; have h5 := hk.2.2.2.2;unfold putHB; simp only [List.length_append]; omega
theorem putEB_len {e : Ent} (hk : e.ok) (hr : rightE e = true) : (putEB e).length ≤ 77 := by
 have hr := rightE_iff.1 hr;have h1 := numB_le (n := e.kind.toNat) (by omega);have h2 := numB_le (n := e.shard.toNat) (by omega);have h3 := numB_le (n := e.amount.toNat) (by omega);have h4 := numB_le (n := e.why.toNat) (by omega);have h5 := numB_le (n := e.epoch.toNat) (by omega);have h6 := hk.2.2.1;unfold putEB; simp only [List.length_append]; omega
open Go.RowKit Go.Shelf
theorem zero_pen : (Tryz.prog.info? 73).map (·.zero) = some (some (.agg [Value.slice none 0 0].toArray)) := by kernel_rfl
theorem conv_u64 {n : Nat} (h : n ≤ 18446744073709551615) : IntKind.u64.wrap (n : Int) = (n : Int) := by rw [IntKind.wrap_u64]; omega
theorem dig_map {d : List UInt8} (h : d.length = 32) : Dig (d.map B) d := ⟨rfl, h⟩
def eformB (x : Ent) : List UInt8 := if rightE x = true then putEB x else []
def hformB (x : Hdr) : List UInt8 := if rightH x = true then putHB x else []
theorem nat_of {z : Int} (h : 0 ≤ z) : ∃ n : Nat, z = (n : Int) := ⟨z.toNat, by omega⟩
theorem midE {x : Ent} (h : x.ok) {w : World} {g : Nat} {t : TypeId} (hb : Blk w g t (entV x)) : ∀ j u, (x.tx.map B)[j]? = some u → w.cell? ⟨g, 2 + j, none⟩ = some u := by
 intro j u hj;refine hb.at_ ?_;have hl : j < (x.tx.map B).length := (List.getElem?_eq_some_iff.1 hj).1;unfold entV;rw [show 2 + j = j + 1 + 1 by omega, List.getElem?_cons_succ, List.getElem?_cons_succ, List.getElem?_append_left hl]; exact hj
theorem midP {x : Hdr} (h : x.ok) {w : World} {g : Nat} {t : TypeId} (hb : Blk w g t (hdrV x)) : ∀ j u, (x.prev.map B)[j]? = some u → w.cell? ⟨g, 3 + j, none⟩ = some u := by
 intro j u hj;refine hb.at_ ?_;have hl : j < (x.prev.map B).length := (List.getElem?_eq_some_iff.1 hj).1;unfold hdrV;rw [show 3 + j = j + 1 + 1 + 1 by omega, List.getElem?_cons_succ, List.getElem?_cons_succ, List.getElem?_cons_succ, List.getElem?_append_left hl]; exact hj
theorem midR {x : Hdr} (h : x.ok) {w : World} {g : Nat} {t : TypeId} (hb : Blk w g t (hdrV x)) : ∀ j u, (x.root.map B)[j]? = some u → w.cell? ⟨g, 35 + j, none⟩ = some u := by
 intro j u hj;refine hb.at_ ?_;have hl : (x.prev.map B).length = 32 := by rw [List.length_map, h.2.2.2.1]
 unfold hdrV;rw [show 35 + j = (32 + j) + 1 + 1 + 1 by omega, List.getElem?_cons_succ, List.getElem?_cons_succ, List.getElem?_cons_succ, List.getElem?_append_right (by omega), hl, show 32 + j - 32 = j by omega]; exact hj
theorem eput_any (x : Ent) (w : World) (hx : x.ok) : Calls Tryz.prog 55 #[.agg (entV x).toArray] w fun e w' => ∃ A c, e = .returned (.tuple #[.slice A (eformB x).length c, .bool (rightE x)]) ∧ Sl w' w'.heap.size 1 A (eformB x).length ((eformB x).map B) ∧ (eformB x).length ≤ c ∧ Grow w w' := by
 have HR := kp (fun w => eright_any x w hx);have HXO := kp hx;have HL := kp (entV_length hx);obtain ⟨r, hr⟩ := xe (rightE x);have HRR := kp hr;unfold eformB;rw [← hr] at HR ⊢;clear hr hx;obtain ⟨cs, hcs⟩ := xe (entV x);have HCS := kp hcs;rw [← hcs] at HR HL ⊢;clear hcs;obtain ⟨gh, hgh⟩ := xe w.heap.size;have HG := kp hgh
 go_enter Tryz.func55, Tryz.ntmps55
 go_wp2_with (with_reducible refine wbx 1 ?_);intro w1 hb1 hbw1 hsz1;rw [← hgh] at hb1 hbw1 hsz1 ⊢;have HH := kp hb1;have HB := kq (Grow w w1) (by rw [hgh] at hbw1; exact hbw1);clear hb1 hbw1 hsz1 hgh;go_wp2_with (with_reducible refine wlb 5 row_entry HH.o HL.o ?_);refine (HR.o _).mono ?_;rintro e w_ ⟨rfl, y_⟩;replace HH := kp (HH.o.call y_);replace HB := kp (HB.o.grow' y_);clear y_;try clear w1
 cases r with
 | false =>
  go_wp2_with fail
  go_ret2
  exact ⟨none, ⟨0, rfl⟩, Sl.nil, HB.o⟩
 | true =>
  obtain ⟨⟨hk1, hk2⟩, ⟨hs1, hs2⟩, ha2, ⟨hy1, hy2⟩, hp1, hp2⟩ := rightE_iff.1 HRR.o.symm;obtain ⟨_, _, htx, ⟨ha1, _⟩, _, _⟩ := HXO.o;obtain ⟨xk, xs, tx, xa, xy, xp⟩ := x;obtain ⟨nk, rfl⟩ := nat_of (show 0 ≤ xk by simp only at hk1; omega);obtain ⟨ns, rfl⟩ := nat_of hs1;obtain ⟨na, rfl⟩ := nat_of ha1;obtain ⟨ny, rfl⟩ := nat_of hy1;obtain ⟨np, rfl⟩ := nat_of hp1;simp only at hk1 hk2 hs2 ha2 hy2 hp2 htx;have hDT := kp (dig_map htx);have HFL := kp (putEB_len HXO.o HRR.o.symm);have HEF := kq ((if true = true then putEB ⟨(nk : Int), (ns : Int), tx, (na : Int), (ny : Int), (np : Int)⟩ else []) = putEB ⟨(nk : Int), (ns : Int), tx, (na : Int), (ny : Int), (np : Int)⟩) rfl;have uk := conv_u64 (n := nk) (by omega); have us := conv_u64 (n := ns) (by omega); have uy := conv_u64 (n := ny) (by omega); have up := conv_u64 (n := np) (by omega);have lk := numB_le (n := nk) (by omega); have ls := numB_le (n := ns) (by omega); have la := numB_le (n := na) (by omega); have ly := numB_le (n := ny) (by omega);have HFE := kq (putEB ⟨(nk : Int), (ns : Int), tx, (na : Int), (ny : Int), (np : Int)⟩ = numB nk ++ numB ns ++ tx ++ numB na ++ numB ny ++ numB np) (by unfold putEB; simp only [Int.toNat_natCast]);rw [HFE.o] at HFL HEF;go_wp2_with (with_reducible refine wal 4 zero_pen ?_);intro w3 hb3 hbw3 hsz3;obtain ⟨g, hg⟩ := xe w_.heap.size;rw [← hg] at hb3 hsz3 hbw3 ⊢;obtain ⟨K, hK⟩ : ∃ K : Nat → Prop, K = fun k => k < g := ⟨_, rfl⟩
  have hKI : ∀ k, K k ↔ k < g := fun k => by rw [hK]
  have HP := kp (PenAt.new (K := K) hb3 (fun k hk => by have := (hKI k).1 hk; omega));have HKH := kq (K gh) (by have := HH.o.lt; exact (hKI gh).2 (by omega));have HKW := kq (∀ k, k < w.heap.size → K k) (fun k hk => (hKI k).2 (by have := HB.o.size; omega));have HB3 := kq (Grow w w3) (HB.o.grow' (by rw [hg] at hbw3; exact hbw3));replace HH := kp (HH.o.below hbw3 (by have := HH.o.lt; omega));clear hb3 hbw3 hsz3 hK hKI HB hg;rw [HCS.o] at HH;clear HCS HR HRR HL;obtain ⟨w0, rfl⟩ : ∃ w0 : World, w0 = w3 := ⟨_, rfl⟩;try clear w_
  have c0 := HH.o.at_ (ent_at HXO.o).1;obtain ⟨w_, hw_⟩ : ∃ w_ : World, w_ = w0 := ⟨_, rfl⟩;rw [← hw_] at HP HH c0 ⊢;have HKK := kq (Kept K w0 w_) (by rw [hw_]; exact Kept.refl _ _);clear hw_;clear c0;have c0 := HH.o.at_ (ent_at HXO.o).1;go_wp2_with fail;refine (num_any g nk K ([]) _ HP.o (by simp) (by omega)).mono ?_;rintro e v_ ⟨rfl, hp_, hk_⟩;have HH_ := kp (hk_.blk HH.o HKH.o);have HKK_ := kp (HKK.o.trans hk_);have HP_ := kp hp_;clear hp_ hk_ HH HKK HP;have HH := HH_;have HKK := HKK_;have HP := HP_;clear HH_ HKK_ HP_;try clear w_
  rename World => w_;try clear c0
  have c0 := HH.o.at_ (ent_at HXO.o).2.1;go_wp2_with fail;refine (num_any g ns K ([] ++ numB nk) _ HP.o (by simp only [List.length_append, List.length_nil]; omega) (by omega)).mono ?_;rintro e v_ ⟨rfl, hp_, hk_⟩;have HH_ := kp (hk_.blk HH.o HKH.o);have HKK_ := kp (HKK.o.trans hk_);have HP_ := kp hp_;clear hp_ hk_ HH HKK HP;have HH := HH_;have HKK := HKK_;have HP := HP_;clear HH_ HKK_ HP_;try clear w_
  rename World => w_;try clear c0
  have hm_ := midE HXO.o HH.o;go_wp2_with (with_reducible first | refine wpl_loadm (o := ⟨some 17, _, _, _, _, _⟩) rfl rfl row_aid hm_ rfl (by rw [List.length_map]; exact htx) ?_);refine (pid_any g K ([] ++ numB nk ++ numB ns) hDT.o _ HP.o (by simp only [List.length_append, List.length_nil]; omega)).mono ?_;rintro e v_ ⟨rfl, hp_, hk_⟩;have HH_ := kp (hk_.blk HH.o HKH.o);have HKK_ := kp (HKK.o.trans hk_);have HP_ := kp hp_;clear hp_ hk_ HH HKK HP;have HH := HH_;have HKK := HKK_;have HP := HP_;clear HH_ HKK_ HP_;try clear w_
  rename World => w_;try clear hm_
  have c0 := HH.o.at_ (ent_at HXO.o).2.2.1;go_wp2_with fail;refine (num_any g na K ([] ++ numB nk ++ numB ns ++ tx) _ HP.o (by simp only [List.length_append, List.length_nil]; omega) (by omega)).mono ?_;rintro e v_ ⟨rfl, hp_, hk_⟩;have HH_ := kp (hk_.blk HH.o HKH.o);have HKK_ := kp (HKK.o.trans hk_);have HP_ := kp hp_;clear hp_ hk_ HH HKK HP;have HH := HH_;have HKK := HKK_;have HP := HP_;clear HH_ HKK_ HP_;try clear w_
  rename World => w_;try clear c0
  have c0 := HH.o.at_ (ent_at HXO.o).2.2.2.1;go_wp2_with fail;refine (num_any g ny K ([] ++ numB nk ++ numB ns ++ tx ++ numB na) _ HP.o (by simp only [List.length_append, List.length_nil]; omega) (by omega)).mono ?_;rintro e v_ ⟨rfl, hp_, hk_⟩;have HH_ := kp (hk_.blk HH.o HKH.o);have HKK_ := kp (HKK.o.trans hk_);have HP_ := kp hp_;clear hp_ hk_ HH HKK HP;have HH := HH_;have HKK := HKK_;have HP := HP_;clear HH_ HKK_ HP_;try clear w_
  rename World => w_;try clear c0
  have c0 := HH.o.at_ (ent_at HXO.o).2.2.2.2;go_wp2_with fail;refine (num_any g np K ([] ++ numB nk ++ numB ns ++ tx ++ numB na ++ numB ny) _ HP.o (by simp only [List.length_append, List.length_nil]; omega) (by omega)).mono ?_;rintro e v_ ⟨rfl, hp_, hk_⟩;have HH_ := kp (hk_.blk HH.o HKH.o);have HKK_ := kp (HKK.o.trans hk_);have HP_ := kp hp_;clear hp_ hk_ HH HKK HP;have HH := HH_;have HKK := HKK_;have HP := HP_;clear HH_ HKK_ HP_;try clear w_
  rename World => w_;try clear c0
  go_wp2_with fail;refine (pbytes_any g K ([] ++ numB nk ++ numB ns ++ tx ++ numB na ++ numB ny ++ numB np) _ HP.o (by simp only [List.length_append, List.length_nil]; have := HFL.o; simp only [List.length_append] at this; omega)).mono ?_;rintro e w5 ⟨A', c', rfl, ho, hc, hg5⟩;have HO := kp (Sl.of_own ho);have HC := kp hc;have HB5 := kq (Grow w w5) ((Below.trans (B := w.heap.size) HB3.o (HKK.o.below HKW.o)).grow' hg5);clear ho hc hg5;rw [List.nil_append] at HO HC;go_wp2_with fail
  go_ret2
  rw [HFE.o];exact ⟨A', c', by simp [List.length_append, htx], HO.o, HC.o, HB5.o⟩
theorem rid_any {xs : List Value} {d : List UInt8} (hx : Dig xs d) (w : World) :
  Calls Tryz.prog 96 #[.agg xs.toArray] w fun e w' => ∃ A' c', e = .returned (.slice A' 32 c') ∧ Sl w' w'.heap.size 1 A' 32 (d.map B) ∧ 32 ≤ c' ∧ Below w.heap.size w w' := by
 have HD := kp hx;have HB := kp (Below.refl w.heap.size w);clear hx
 go_enter Tryz.func96, Tryz.ntmps96
 go_wp2_with (with_reducible refine wbx 1 ?_);intro v_ b_ y_ hsz2_;have HX_ := kp (at_mk b_ HD.o.len);clear b_ hsz2_;replace HB := kp (HB.o.grow' y_);have HX := HX_;clear y_ HX_;try clear w_
 rename World => w_;go_wp2_with fail;go_loopw [3, 4] (fun v i wr => ∃ k : Nat, ∃ A' c', k ≤ 32 ∧ i = .int .i64 k ∧ v = .slice A' k c' ∧ Hid (wr.ownsRow (w.heap.size + 1) 5 1 (.slice A' k c') k (xs.take k)) ∧ Hid (Below w.heap.size w wr) ∧ Hid (At wr w.heap.size 32 32 xs)) (fun _ i _ => 32 - (intOf i).toNat)
 case atStart => exact ⟨0, none, 0, by omega, rfl, rfl, kp (by simpa using World.ownsRow_nil _ _ _ _), HB, HX⟩
 case round =>
  obtain ⟨k, A3, c3, hk, rfl, rfl, hown, hbw, hat⟩ := hrel;clear HB HX;by_cases hlt : k < 32
  ·obtain ⟨x, hx, _⟩ := HD.o.at_ hlt;have hc := hat.o.blk.at_ hx;have HXK := kp hx;clear hx;go_wp2_with (at_builtin; refine wpl_app1 rfl rfl el_u8 hown.o rfl (m := 1) rfl rfl ?_ ?_ ?_ ?_ ?_)
   ·rfl
   ·omega
   ·omega
   ·have := hat.o.lt; omega
   ·intro A4 c4 w4 ho hg hA;have HO := kq (w4.ownsRow (w.heap.size + 1) 5 1 (.slice A4 (k + 1) c4) (k + 1) (xs.take (k + 1))) (by rw [List.take_add_one, HXK.o]; exact ho);have HB := kq (Below w.heap.size w w4) (hbw.o.grown hg hbw.o.size (fun g hg => by have := own_from hown.o g hg; omega));have HX := kp (at_mk (hat.o.blk.grown hg (by intro hh; have := own_from hown.o _ hh.symm; omega)) hat.o.len);clear ho hg hA hc;go_wp2_with fail;go_roundw
    case rel => exact ⟨k + 1, A4, c4, by omega, by go_num, rfl, HO, HB, HX⟩
    case measure => simp [intOf]; omega
  ·obtain rfl : k = 32 := by omega
   have e : xs.take 32 = d.map B := by rw [List.take_of_length_le (by rw [HD.o.len]; exact Nat.le_refl _), HD.o.1]
   have HO := kp (e ▸ hown.o);clear e;have HC := kp (own_form hown.o (by omega));go_wp2_with fail;go_ret
   exact ⟨A3, c3, rfl, Sl.of_own HO.o, (by obtain ⟨g, _, _, _, h⟩ := HC.o; exact h), hbw.o⟩
theorem rid_n {xs : List Value} {d : List UInt8} (hx : Dig xs d) (w : World) :
  Calls Tryz.prog 96 #[.agg xs.toArray] w fun e w' => ∃ A' c', e = .returned (.slice A' 32 c') ∧ Sl w' w'.heap.size 1 A' 32 (d.map B) ∧ 32 ≤ c' ∧ Below w.heap.size w w' := rid_any hx w
theorem under1' (m : UInt8) (a : List UInt8) : underB m [a] = [m] ++ (beBytes a.length 4 ++ a) := by
 have : underB m [] = [m] := by unfold underB; simp
 rw [show [a] = [] ++ [a] from rfl, underB_snoc, this]
theorem under2' (m : UInt8) (a b : List UInt8) : underB m [a, b] = [m] ++ (beBytes a.length 4 ++ a) ++ (beBytes b.length 4 ++ b) := by
 rw [show [a, b] = [a] ++ [b] from rfl, underB_snoc, under1']
theorem under_eq (m : UInt8) (bs : List UInt8) (n : Nat) (h : bs.length = n) : (underB m [bs]).map B = [B m] ++ (beBytes n 4 ++ bs).map B := by
 rw [under1', h]; simp only [List.map_append, List.map_cons, List.map_nil]
theorem rleaf_any (A : Option Addr) (n c : Nat) (bs : List UInt8) {xs : List Value} (hx : Dig xs (leafB bs)) (w : World) (hs : Sl w w.heap.size 1 A n (bs.map B)) (hn : n ≤ 1000000) :
  Calls Tryz.prog 76 #[.slice A n c] w fun e w' => e = .returned (.agg xs.toArray) ∧ Below w.heap.size w w' := by
 have HS := kp hs;have HD := kq (Dig xs (sha (underB 1 [bs]))) (by unfold leafB at hx; exact hx);have HB := kp (Below.refl w.heap.size w);have HG := kp (Nat.le_refl w.heap.size);have HL := kq (bs.length = n) (by have := hs.len; simpa using this);clear hs hx
 go_enter Tryz.func76, Tryz.ntmps76
 go_wp2_with (with_reducible refine wal 2 zero_id ?_);intro v_ b_ y_ hsz2_;have HX_ := kp (at_mk b_ len_id);clear b_ hsz2_;replace HB := kp (HB.o.grow' y_);replace HS := kp (HS.o.grow y_);have HR := HX_;clear y_ HX_;try clear w_
 rename World => w_;go_wp2_with fail;generalize hw_ : World.alloc w_ _ = w1_;obtain ⟨hX_, hb1, hs_⟩ := alloc_eq hw_;have HO := kp (own_blk (base := w_.heap.size) hX_ (n := 1) rfl (Nat.le_refl _) (by simp [maxLen]));have HG1 := kp hb1;have HS1 := kp (HS.o.grow hb1);clear hw_ hX_ hb1 hs_;refine (long_any _ _ _ bs _ HS1.o (by omega)).mono ?_;rintro e v_ ⟨A5, c5, rfl, ho_, y_⟩;have HLG := kp (Sl.of_own ho_);have HA := kp (all_bytes (beBytes n 4 ++ bs));have HO2 := kp (own_below HO.o y_);have HG2 := kp (Grow.trans _ _ _ HG1.o y_);clear ho_ y_ HO HS1 HG1;go_wp2_with (at_builtin; refine wpl_apps rfl rfl el_u8 HO2.o rfl HLG.o rfl HA.o (by omega) (by omega) HG2.o.size ?_);intro A6 c6 w4 ho hg hA;have hb4 : Grow w_ w4 := app_below HG2.o HO2.o hg
 have HX := kp (show Sl w4 w4.heap.size 1 A6 (1 + (4 + n)) ((underB 1 [bs]).map B) by
  have h := Sl.of_own ho;rw [under_eq 1 bs n HL.o];try simp only [List.map_append, List.map_cons, List.map_nil, List.cons_append, List.nil_append, List.append_assoc] at h
  simp only [List.map_append, List.map_cons, List.map_nil, List.cons_append, List.nil_append, List.append_assoc]
  exact h)
 replace HB := kp (HB.o.grow' hb4);replace HR := kp (HR.o.grow hb4);clear ho hg hA HO2 HG2 HLG HA hb4;try clear w_
 rename World => w_;go_wp2_with fail;refine (dof_any _ _ _ HD.o _ HX.o (by omega)).mono ?_;rintro e w_ ⟨rfl, y_⟩;replace HB := kp (HB.o.grow' y_);replace HR := kp (HR.o.grow y_);clear y_;go_wp2_with (with_reducible refine wsb row_id HR.o.blk HR.o.len HD.o.len HD.o.one ?_);intro v_ b_ g_ hsz2_;replace HB := kp (put_below HB.o HG.o g_);replace HR := kp (at_mk b_ HD.o.len);clear b_ g_ hsz2_;try clear w_
 rename World => w_;go_wp2_with fail;exact ret_cell rfl row_id HR.o.blk rfl HR.o.len rfl ⟨rfl, HB.o⟩
theorem rnode_any {a b : List UInt8} {ys zs xs : List Value} (ha : Dig ys a) (hb : Dig zs b) (hx : Dig xs (nodeB a b)) (w : World) :
  Calls Tryz.prog 77 #[.agg ys.toArray, .agg zs.toArray] w fun e w' => e = .returned (.agg xs.toArray) ∧ Below w.heap.size w w' := by
 have HA := kp ha; have HBB := kp hb;have HD := kq (Dig xs (sha (underB 2 [a, b]))) (by unfold nodeB at hx; exact hx);have HB := kp (Below.refl w.heap.size w);clear ha hb hx
 go_enter Tryz.func77, Tryz.ntmps77
 go_wp2_with (with_reducible refine wbx 2 ?_);intro v_ b_ y_ hsz2_;have HX_ := kp (at_mk b_ HA.o.len);clear b_ hsz2_;replace HB := kp (HB.o.grow' y_);have HV1 := HX_;clear y_ HX_;try clear w_
 rename World => w_;go_wp2_with (with_reducible refine wbx 3 ?_);intro v_ b_ y_ hsz2_;have HX_ := kp (at_mk b_ HBB.o.len);clear b_ hsz2_;have HG_ := kp HB.o.size;replace HB := kp (HB.o.grow' y_);replace HV1 := kp (HV1.o.grow y_);generalize hg_ : w_.heap.size = g2 at HX_ HG_ ⊢;clear hg_;have HV2_g := HG_;clear HG_;have HV2 := HX_;clear y_ HX_;try clear w_
 rename World => w_;go_wp2_with (with_reducible refine wal 4 zero_id ?_);intro v_ b_ y_ hsz2_;have HX_ := kp (at_mk b_ len_id);clear b_ hsz2_;have HG_ := kp HB.o.size;replace HB := kp (HB.o.grow' y_);replace HV1 := kp (HV1.o.grow y_);replace HV2 := kp (HV2.o.grow y_);generalize hg_ : w_.heap.size = gr at HX_ HG_ ⊢;clear hg_;have HR_g := HG_;clear HG_;have HR := HX_;clear y_ HX_;try clear w_
 rename World => w_;have HG := HR_g;have ha1 := alloc_new w_ #[.int .u8 2] 5;have HO := kp (World.ownsRow_lit (base := w_.heap.size) (e := 5) (size := 1) w_ #[.int .u8 2] 1 (Nat.le_refl _) (by simp [maxLen]) rfl);have HV1A := kp (HV1.o.grow ha1.2.1);have HG1 := kp ha1.2.1;clear ha1;go_wp2_with (first | (with_reducible refine wpl_loadb (o := ⟨_, .load _ _, _, _, _, _⟩) rfl rfl row_id HV1A.o.blk rfl HV1A.o.len ?_) | (with_reducible refine wpl_loadw (o := ⟨_, .load _ _, _, _, _, _⟩) (by first | rfl | (go_simp; done) | fail) rfl row_id HV1A.o.blk rfl HV1A.o.len ?_));refine (rid_n HA.o _).mono ?_;rintro e v_ ⟨A3, c3, rfl, hs3, hc3, y_⟩;have HS3 := kp hs3;have HO2 := kp (own_below HO.o y_);have HG2 := kp (Grow.trans _ _ _ HG1.o y_);clear hs3 y_ HO HG1 HV1A;go_wp2_with fail;refine (long_any _ _ _ a _ HS3.o (by omega)).mono ?_;rintro e w3_ ⟨A5, c5, rfl, ho_, y_⟩;have HLG := kp (Sl.of_own ho_);have HAB := kp (all_bytes (beBytes 32 4 ++ a));have HO3 := kp (own_below HO2.o y_);have HG3 := kp (Grow.trans _ _ _ HG2.o y_);clear ho_ y_ HO2 HS3 HG2;go_wp2_with (at_builtin; refine wpl_apps rfl rfl el_u8 HO3.o rfl HLG.o rfl HAB.o (by omega) (by omega) HG3.o.size ?_);intro A6 c6 w4 ho hg hA;have HG4 := kq (Grow w_ w4) (app_below HG3.o HO3.o hg);have HO4 := kp ho;have HV2A := kp (HV2.o.grow HG4.o);clear ho hg hA HO3 HG3 HLG HAB;go_wp2_with (first | (with_reducible refine wpl_loadb (o := ⟨_, .load _ _, _, _, _, _⟩) rfl rfl row_id HV2A.o.blk rfl HV2A.o.len ?_) | (with_reducible refine wpl_loadw (o := ⟨_, .load _ _, _, _, _, _⟩) (by first | rfl | (go_simp; done) | fail) rfl row_id HV2A.o.blk rfl HV2A.o.len ?_));refine (rid_n HBB.o _).mono ?_;rintro e w5_ ⟨A7, c7, rfl, hs3, hc7, y_⟩;have HS3 := kp hs3;have HO5 := kp (own_below HO4.o y_);have HG5 := kp (Grow.trans _ _ _ HG4.o y_);clear hs3 y_ HO4 HG4 HV2A;go_wp2_with fail;refine (long_any _ _ _ b _ HS3.o (by omega)).mono ?_;rintro e w6_ ⟨A8, c8, rfl, ho_, y_⟩;have HLG := kp (Sl.of_own ho_);have HAB := kp (all_bytes (beBytes 32 4 ++ b));have HO6 := kp (own_below HO5.o y_);have HG6 := kp (Grow.trans _ _ _ HG5.o y_);clear ho_ y_ HO5 HS3 HG5;go_wp2_with (at_builtin; refine wpl_apps rfl rfl el_u8 HO6.o rfl HLG.o rfl HAB.o (by omega) (by omega) HG6.o.size ?_);intro A9 c9 w7 ho hg hA;have hb4 : Grow w_ w7 := app_below HG6.o HO6.o hg
 have HX := kp (show Sl w7 w7.heap.size 1 A9 (1 + (4 + 32) + (4 + 32)) ((underB 2 [a, b]).map B) by
  have h := Sl.of_own ho;rw [under2', HA.o.2, HBB.o.2];try simp only [List.map_append, List.map_cons, List.map_nil, List.cons_append, List.nil_append, List.append_assoc] at h
  simp only [List.map_append, List.map_cons, List.map_nil, List.cons_append, List.nil_append, List.append_assoc]
  exact h)
 replace HB := kp (HB.o.grow' hb4);replace HR := kp (HR.o.grow hb4);clear ho hg hA HO6 HG6 HLG HAB hb4;try clear w_
 rename World => w_;go_wp2_with fail;refine (dof_any _ _ _ HD.o _ HX.o (by omega)).mono ?_;rintro e w_ ⟨rfl, y_⟩;replace HB := kp (HB.o.grow' y_);replace HR := kp (HR.o.grow y_);clear y_;go_wp2_with (with_reducible refine wsb row_id HR.o.blk HR.o.len HD.o.len HD.o.one ?_);intro v_ b_ g_ hsz2_;replace HB := kp (put_below HB.o HG.o g_);replace HR := kp (at_mk b_ HD.o.len);clear b_ g_ hsz2_;try clear w_
 rename World => w_;go_wp2_with fail;exact ret_cell rfl row_id HR.o.blk rfl HR.o.len rfl ⟨rfl, HB.o⟩
theorem rroot_any : ∀ (N n c : Nat) (A : Option Addr) (ps : List (Value × List UInt8)) (xs : List Value) (w : World), n ≤ N → Dig xs (rootB (ps.map Prod.snd)) → Parts w w.heap.size A n ps → n ≤ c → n ≤ 16777216 → (∀ p ∈ ps, p.2.length ≤ 1000000) → Tabs w →
  Calls Tryz.prog 45 #[.slice A n c] w fun e w' => e = .returned (.agg xs.toArray) ∧ Below w.heap.size w w' := by
 intro N
 induction N with
 | zero =>
  intro n c A ps xs w hnN hx hp hc hn hl ht;obtain rfl : n = 0 := by omega
  have HD := kp (show Dig xs (sha [0]) by
   have h := hx;obtain rfl : ps = [] := List.eq_nil_of_length_eq_zero hp.len;rw [List.map_nil, rootB_nil] at h; unfold noneB at h;have e : underB 0 [] = [0] := by unfold underB; simp
   rw [e] at h; exact h)
  have HB := kp (Below.refl w.heap.size w);have HG := kp (Nat.le_refl w.heap.size);clear ht hx hp hl
  go_enter Tryz.func45, Tryz.ntmps45
  go_wp2_with (with_reducible refine wal 2 zero_id ?_);intro v_ b_ y_ hsz2_;have HX_ := kp (at_mk b_ len_id);clear b_ hsz2_;replace HB := kp (HB.o.grow' y_);have HR := HX_;clear y_ HX_;try clear w_
  rename World => w_;go_wp2_with fail;generalize hw_ : World.alloc w_ _ = v_;obtain ⟨hX_, y_, hs_⟩ := alloc_eq hw_;generalize hg_ : w_.heap.size = g at hX_ hs_ ⊢;have HX := kp hX_;clear hw_ hX_;replace HB := kp (HB.o.grow' y_);replace HR := kp (HR.o.grow y_);clear y_ hs_;clear hg_;try clear w_
  rename World => w_;have HS := kq (Sl w_ w_.heap.size 1 (some ⟨g, 0, none⟩) 1 ([0].map B)) (HX.o.sl rfl);go_wp2_with fail;refine (dof_any _ _ _ HD.o _ HS.o (by omega)).mono ?_;rintro e w_ ⟨rfl, y_⟩;replace HB := kp (HB.o.grow' y_);replace HR := kp (HR.o.grow y_);clear y_;go_wp2_with (with_reducible refine wsb row_id HR.o.blk HR.o.len HD.o.len HD.o.one ?_);intro v_ b_ g_ hsz2_;replace HB := kp (put_below HB.o HG.o g_);replace HR := kp (at_mk b_ HD.o.len);clear b_ g_ hsz2_;try clear w_
  rename World => w_;go_wp2_with fail;exact ret_cell rfl row_id HR.o.blk rfl HR.o.len rfl ⟨rfl, HB.o⟩
 | succ N ih =>
  intro n c A ps xs w hnN hx hp hc hn hl ht;by_cases hz : n ≤ N
  ·exact ih n c A ps xs w hz hx hp hc hn hl ht
  have hnN1 : n = N + 1 := by omega
  have HT := kp ht; have HP := kp hp; have HL := kp hl;have HN := kp hp.len;have HB := kp (Below.refl w.heap.size w);have HG := kp (Nat.le_refl w.heap.size);have HIH := kp ih;by_cases h1 : N = 0
  ·subst h1;obtain rfl : n = 1 := by omega
   obtain ⟨p, rfl⟩ : ∃ p, ps = [p] := by
    have := hp.len
    match ps, this with
    | [p], _ => exact ⟨p, rfl⟩
   have HD := kq (Dig xs (leafB p.2)) (by have h := hx; rw [List.map_cons, List.map_nil, rootB_one] at h; exact h);obtain ⟨b, off, A2, c2, bs, rfl, hps, hcell, hcc, hs⟩ := hp.at_ (show 0 < 1 by omega);obtain rfl : p = (.slice A2 bs.length c2, bs) := by simpa using hps
   have HS := kp hs;have hbl := hl _ (List.mem_singleton.2 rfl);rw [Nat.add_zero] at hcell;have HC := kp hcell;clear ht hx hp hl hs ih hps hcell hz hnN1
   go_enter Tryz.func45, Tryz.ntmps45
   go_wp2_with (with_reducible refine wal 2 zero_id ?_);intro v_ b_ y_ hsz2_;have HX_ := kp (at_mk b_ len_id);clear b_ hsz2_;replace HB := kp (HB.o.grow' y_);replace HT := kp (HT.o.grow y_);replace HS := kp (HS.o.grow y_);have HR := HX_;clear y_ HX_;try clear w_
   rename World => w_;have hcell := bcell HB.o HC.o;go_wp2_with fail;refine (rleaf_any _ _ _ _ HD.o _ HS.o hbl).mono ?_;rintro e w_ ⟨rfl, y_⟩;replace HB := kp (HB.o.grow' y_);replace HR := kp (HR.o.grow y_);clear y_;clear hcell;go_wp2_with (with_reducible refine wsb row_id HR.o.blk HR.o.len HD.o.len HD.o.one ?_);intro v_ b_ g_ hsz2_;replace HB := kp (put_below HB.o HG.o g_);replace HR := kp (at_mk b_ HD.o.len);clear b_ g_ hsz2_;try clear w_
   rename World => w_;go_wp2_with fail;exact ret_cell rfl row_id HR.o.blk rfl HR.o.len rfl ⟨rfl, HB.o⟩
  ·have h2 : 2 ≤ n := by omega
   obtain ⟨k, hk⟩ := xe (halfN n);have hk1 : 1 ≤ k := by rw [hk]; exact halfN_pos n
   have hk2 : k < n := by rw [hk]; exact halfN_lt h2
   have hkn : k ≤ n := Nat.le_of_lt hk2;have hkc : k ≤ c := by omega
   have HK := kp hk;have hkN : k ≤ N := by omega
   have hdN : n - k ≤ N := by omega
   have hN1 : N + 1 ≤ n := by omega
   obtain ⟨xs1, hd1⟩ := dig_root ((ps.take k).map Prod.snd);obtain ⟨xs2, hd2⟩ := dig_root ((ps.drop k).map Prod.snd);have HD1 := kp hd1; have HD2 := kp hd2
   have HD := kp (show Dig xs (nodeB (rootB ((ps.take k).map Prod.snd)) (rootB ((ps.drop k).map Prod.snd))) by
    have h := hx;rw [rootB_more _ (by rw [List.length_map, HN.o]; exact h2), List.length_map, HN.o, ← hk, ← List.map_take, ← List.map_drop] at h
    exact h)
   have z1 : ((n : Int) == 0) = false := by simp; omega
   have z2 : ((n : Int) == 1) = false := by simp; omega
   have z3 : decide ((n : Int) = 0) = false := by simp; omega
   have z4 : decide ((n : Int) = 1) = false := by simp; omega
   have z5 : (n == 0) = false := by simp; omega
   have z6 : (n == 1) = false := by simp; omega
   have z7 : decide (n = 0) = false := by simp; omega
   have z8 : decide (n = 1) = false := by simp; omega
   have HL1 := kq (∀ p ∈ ps.take k, p.2.length ≤ 1000000) (fun p hp => hl p (List.mem_of_mem_take hp));have HL2 := kq (∀ p ∈ ps.drop k, p.2.length ≤ 1000000) (fun p hp => hl p (List.mem_of_mem_drop hp));clear ht hx hp hl ih hd1 hd2 hk hnN1
   go_enter Tryz.func45, Tryz.ntmps45
   go_wp2_with (with_reducible refine wal 2 zero_id ?_);intro v_ b_ y_ hsz2_;have HX_ := kp (at_mk b_ len_id);clear b_ hsz2_;replace HB := kp (HB.o.grow' y_);replace HT := kp (HT.o.grow y_);replace HP := kp (HP.o.grow y_);have HR := HX_;clear y_ HX_;try clear w_
   rename World => w_;go_wp2_with fail;refine (half_any n _ h2 hn).mono ?_;rintro e w1 ⟨rfl, rfl⟩;rw [← HK.o];try go_wp2_with fail
   repeat' (first | (with_reducible refine wpp (id := 6) Grow [0,0,0,3,0,0,0,3,3,3] (.get 0 (.get 1 (.get 2 (.get 4 (.get 5 (.get 6 (.act 3 (.act 7 (.act 8 (.act 9 .done)))))))))) Grow.refl Grow.trans ?_) | go_values | go_skip | go_guarded | go_step | go_upon | go_back)
   intro w_ hd_;have y_ := hd_.grow;replace HB := kp (HB.o.grow' y_);replace HR := kp (HR.o.grow y_);replace HT := kp (HT.o.grow y_);replace HP := kp (HP.o.grow y_);clear y_ hd_;repeat ((first | refine plc (fun K hK => ?_) | refine pls (fun K hK => ?_) | refine psa (fun K hK => ?_)); go_simp; refine hK _ _ ?_; clear hK K)
   have HP1 := kp (HP.o.to1 hkn);have HP2 := kp (HP.o.from1 hkn hc);generalize (if c = k then A else Option.map (fun x => x.add k) A) = A2 at HP2 ⊢;refine pl_act rfl (by first | exact wanted_none rfl | (go_simp; done) | rfl) (fun K hK => ?_);go_wp2_with fail;refine (HIH.o k c A (ps.take k) xs1 _ (by omega) HD1.o HP1.o hkc (by omega) HL1.o HT.o).mono ?_;rintro e w_ ⟨rfl, y_⟩;go_wp2_with fail;refine hK _ _ (fun _ => y_) ?_;clear hK K;replace HB := kp (HB.o.grow' y_);replace HR := kp (HR.o.grow y_);replace HT := kp (HT.o.grow y_);replace HP2 := kp (HP2.o.grow y_);clear y_;refine pl_act rfl (by first | exact wanted_none rfl | (go_simp; done) | rfl) (fun K hK => ?_);go_wp2_with fail;refine (HIH.o (n - k) (c - k) A2 (ps.drop k) xs2 _ (by omega) HD2.o HP2.o (by omega) (by omega) HL2.o HT.o).mono ?_;rintro e w_ ⟨rfl, y_⟩;go_wp2_with fail;refine hK _ _ (fun _ => y_) ?_;clear hK K;replace HB := kp (HB.o.grow' y_);replace HR := kp (HR.o.grow y_);replace HT := kp (HT.o.grow y_);clear y_;refine pl_act rfl (by first | exact wanted_none rfl | (go_simp; done) | rfl) (fun K hK => ?_);go_wp2_with fail;refine (rnode_any HD1.o HD2.o HD.o _).mono ?_;rintro e w_ ⟨rfl, y_⟩;go_wp2_with fail;refine hK _ _ (fun _ => y_) ?_;clear hK K;replace HB := kp (HB.o.grow' y_);replace HR := kp (HR.o.grow y_);clear y_;refine pl_act rfl (by first | exact wanted_none rfl | (go_simp; done) | rfl) (fun K hK => ?_);show wpList _ _ _ [⟨none, .store _ _ _, _, _, _, _⟩] _ _
   go_wp2_with (with_reducible refine wsb row_id HR.o.blk HR.o.len HD.o.len HD.o.one ?_);intro v_ b_ g_ hsz2_;replace HB := kp (put_below HB.o HG.o g_);replace HR := kp (at_mk b_ HD.o.len);clear b_ g_ hsz2_;try clear w_
   rename World => w_;go_wp2_with fail;refine hK _ _ (fun h => by cases h) ?_;clear hK K;refine pl_done ?_;go_wp2_with fail;exact ret_cell rfl row_id HR.o.blk rfl HR.o.len rfl ⟨rfl, HB.o⟩
def tagB (key b : List UInt8) : List UInt8 := sha ((padB key).map (· ^^^ 92) ++ sha ((padB key).map (· ^^^ 54) ++ b))
theorem tagB_length (key b : List UInt8) : (tagB key b).length = 32 := sha_length _
end Go.Proofs.YtiijepimkgaccaaGreat

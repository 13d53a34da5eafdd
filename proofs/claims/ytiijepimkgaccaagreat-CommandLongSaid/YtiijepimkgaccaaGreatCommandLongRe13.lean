/- Layer 5: climbing. -/
import Derived.Test.YtiijepimkgaccaaGreatCommandLongRe12
set_option linter.unusedSimpArgs false
set_option linter.unusedVariables false
set_option maxRecDepth 100000
set_option maxHeartbeats 16000000
namespace Go.Proofs.YtiijepimkgaccaaGreat
open Go.RowKit Go.Shelf
attribute [local irreducible] nodeB leafB
theorem pl_loadm {P : Program} {ops : Array Oper} {cl : List Nat} {Q : Exit → Act → World → Prop} {o : Oper} {i : Nat} {t : Plan} {a : Act} {w : World} {T : TypeId} {x : Operand} {n b off : Nat} {cs : List Value} (hi : ops[i]? = some o) (hc : plCls cl i = 1 ∨ plCls cl i = 2) (hw : Region.wanted o (yielded ops a.tmps) = true) (ho : o.op = .load T x) (hT : RowT P T n)
  (hcell : ∀ j u, cs[j]? = some u → w.cell? ⟨b, off + j, none⟩ = some u) (hbz : b < w.heap.size) (hx : a.eval x = .pointer (some ⟨b, off, none⟩)) (hn : cs.length = n)
  (hk : ∀ K : Act → World → Prop, (∀ a w, wpS P ops Grow cl Q t a w → K a w) → K (a.put o.dst (.agg cs.toArray)) w) : wpS P ops Grow cl Q (.get i t) a w := by
 have hrun : ∀ w', Grow w w' → (execOp a.eval o).run P w' = .ok (.value (.agg cs.toArray)) w' := by
  intro w' hf;obtain ⟨d, hu, hd, hi⟩ := hT;have h := run_loadVar_mid (P := P) w' b off T cs d (fun j u hu => (hf.cell (show (⟨b, off + j, none⟩ : Addr).block < w.heap.size from hbz)).trans (hcell j u hu)) hu (by cases d <;> simp_all) (by rw [hi, hn]);unfold execOp;simp only [ho, hx, Instr.loadAt, Instr.sureAddr, Sem.run_bind, Sem.run_pure, Result.andThen_ok, h]
 rcases hc with hc | hc
 ·exact pl_read hi hc hw hrun hk
 ·exact pl_now hi hc hw (hrun w (Grow.refl w)) hk
end Go.Proofs.YtiijepimkgaccaaGreat
namespace Go.Proofs.YtiijepimkgaccaaGreat
open Go.RowKit Go.Shelf
theorem Ids.up {w w' : World} {A : Option Addr} {n c : Nat} {ds : List (List UInt8)} (h : Ids w A n c ds) (hb : Below w.heap.size w w') : Ids w' A n c ds := h.grow hb
attribute [local irreducible] nodeB leafB
end Go.Proofs.YtiijepimkgaccaaGreat
namespace Go.Proofs.YtiijepimkgaccaaGreat
open Go.RowKit Go.Shelf
attribute [local irreducible] nodeB leafB
end Go.Proofs.YtiijepimkgaccaaGreat
namespace Go.Proofs.YtiijepimkgaccaaGreat
open Go.RowKit Go.Shelf
attribute [local irreducible] nodeB leafB noneB
theorem Ids.own {w : World} {base n c : Nat} {A : Option Addr} {ds : List (List UInt8)} (h : OwnI w base A n c ds) (hl : ds.length = n) (h32 : ∀ d ∈ ds, d.length = 32) (hc : n ≤ c) : Ids w A n c ds := ⟨Sl.of_own h, hl, h32, hc⟩
theorem own_cap {w : World} {base n c : Nat} {A : Option Addr} {ds : List (List UInt8)} (h : OwnI w base A n c ds) : n ≤ c := by
 rcases Nat.eq_zero_or_pos n with h0 | h0
 ·omega
 ·obtain ⟨_, _, _, _, h⟩ := own_form h h0; exact h
theorem Ids.none_ (w : World) : Ids w none 0 0 [] := ⟨Sl.nil, rfl, by simp, Nat.le_refl _⟩
end Go.Proofs.YtiijepimkgaccaaGreat
namespace Go.Proofs.YtiijepimkgaccaaGreat
open Go.RowKit Go.Shelf
attribute [local irreducible] nodeB leafB noneB
end Go.Proofs.YtiijepimkgaccaaGreat
namespace Go.Proofs.YtiijepimkgaccaaGreat
open Go.RowKit Go.Shelf
attribute [local irreducible] nodeB leafB noneB
end Go.Proofs.YtiijepimkgaccaaGreat
namespace Go.Proofs.YtiijepimkgaccaaGreat
open Go.RowKit
structure Cer where
 e : Ent
 path : List (List UInt8)
 h : Hdr
 tag : List UInt8
def Cer.ok (c : Cer) : Prop := c.e.ok ∧ (∀ d ∈ c.path, d.length = 32) ∧ c.h.ok ∧ c.tag.length = 32
def keyS (seed : List UInt8) (s : Int) : List UInt8 := tagB seed [UInt8.ofNat s.toNat]
def certV (v : Value) (c : Cer) : List Value := entV c.e ++ v :: (hdrV c.h ++ c.tag.map B)
theorem certV_len {v : Value} {c : Cer} (h : c.ok) : (certV v c).length = 137 := by
 simp only [certV, List.length_append, List.length_cons, entV_length h.1, hdrV_length h.2.2.1, List.length_map, h.2.2.2]
theorem app_at {xs ys : List Value} {j : Nat} {u : Value} (n : Nat) (hn : xs.length = n) (h : ys[j]? = some u) : (xs ++ ys)[n + j]? = some u := by
 rw [List.getElem?_append_right (by omega), hn, Nat.add_sub_cancel_left]; exact h
theorem app_lt {xs ys : List Value} {j : Nat} {u : Value} (h : xs[j]? = some u) : (xs ++ ys)[j]? = some u := by
 rw [List.getElem?_append_left (List.getElem?_eq_some_iff.1 h).1]; exact h
theorem cert_e {v : Value} {c : Cer} {j : Nat} {u : Value} (h : (entV c.e)[j]? = some u) : (certV v c)[j]? = some u := app_lt h
theorem cert_v {v : Value} {c : Cer} (h : c.ok) : (certV v c)[37]? = some v := app_at (j := 0) 37 (entV_length h.1) rfl
theorem cert_h {v : Value} {c : Cer} (hk : c.ok) {j : Nat} {u : Value} (h : (hdrV c.h)[j]? = some u) : (certV v c)[38 + j]? = some u := by
 rw [show 38 + j = 37 + (1 + j) by omega];refine app_at 37 (entV_length hk.1) ?_;rw [Nat.add_comm 1 j, List.getElem?_cons_succ]; exact app_lt h
theorem cert_t {v : Value} {c : Cer} (hk : c.ok) {j : Nat} {u : Value} (h : (c.tag.map B)[j]? = some u) : (certV v c)[105 + j]? = some u := by
 rw [show 105 + j = 37 + (67 + j + 1) by omega];refine app_at 37 (entV_length hk.1) ?_;rw [List.getElem?_cons_succ]; exact app_at 67 (hdrV_length hk.2.2.1) h
section
variable {c : Cer} {v : Value} {w : World} {g : Nat} {t : TypeId}
theorem midCE (hb : Blk w g t (certV v c)) : ∀ j u, (entV c.e)[j]? = some u → w.cell? ⟨g, 0 + j, none⟩ = some u := fun j u hu => by rw [Nat.zero_add]; exact hb.at_ (cert_e hu)
theorem midCH (h : c.ok) (hb : Blk w g t (certV v c)) : ∀ j u, (hdrV c.h)[j]? = some u → w.cell? ⟨g, 38 + j, none⟩ = some u := fun j u hu => hb.at_ (cert_h h hu)
theorem midCT (h : c.ok) (hb : Blk w g t (certV v c)) : ∀ j u, (c.tag.map B)[j]? = some u → w.cell? ⟨g, 105 + j, none⟩ = some u := fun j u hu => hb.at_ (cert_t h hu)
end
theorem cert_one (v : Value) (hv : v.oneCell' = true) (c : Cer) : ∀ u ∈ certV v c, u.oneCell' = true := by
 intro u hu;simp only [certV, entV, hdrV, List.mem_append, List.mem_cons, List.mem_map, List.not_mem_nil, or_false] at hu;rcases hu with (rfl | rfl | ⟨x, _, rfl⟩ | rfl | rfl | rfl) | rfl | (rfl | rfl | rfl | ⟨x, _, rfl⟩ | ⟨x, _, rfl⟩) | ⟨x, _, rfl⟩ <;> first | rfl | exact hv
instance : DecidableEq Ent := fun a b => by
 refine decidable_of_iff (a.kind = b.kind ∧ a.shard = b.shard ∧ a.tx = b.tx ∧ a.amount = b.amount ∧ a.why = b.why ∧ a.epoch = b.epoch) ?_;cases a; cases b; simp
instance : DecidableEq Hdr := fun a b => by
 refine decidable_of_iff (a.shard = b.shard ∧ a.height = b.height ∧ a.epoch = b.epoch ∧ a.prev = b.prev ∧ a.root = b.root) ?_;cases a; cases b; simp
instance : DecidableEq Cer := fun a b => by
 refine decidable_of_iff (a.e = b.e ∧ a.path = b.path ∧ a.h = b.h ∧ a.tag = b.tag) ?_;cases a; cases b; simp
end Go.Proofs.YtiijepimkgaccaaGreat
namespace Go.Proofs.YtiijepimkgaccaaGreat
open Go.RowKit Go.ChangeShapes Go.WideShapes
section
variable {H : Type} {enc : TypeId × Value → H} {w : World} {r : Reach} {b0 base : Nat} {spare : Nat → Bool} {held : Bool}
end
end Go.Proofs.YtiijepimkgaccaaGreat
namespace Go.Proofs.YtiijepimkgaccaaGreat
open Go.RowKit Go.ChangeShapes Go.WideShapes
section
variable {H : Type} {enc : TypeId × Value → H} {w : World} {r : Reach} {b0 base : Nat} {spare : Nat → Bool} {held : Bool}
theorem i64_of {z : Int} (h : (Lit.int .i64 z).wf = true) : I64 z := bounds_i64 h
theorem u64_of {z : Int} (h : (Lit.int .u64 z).wf = true) : U64 z := by
 simp [Lit.wf, IntKind.min, IntKind.max, IntKind.signed, IntKind.bits] at h; exact ⟨by omega, by omega⟩
theorem got {α : Type} {o : Option α} {xs : List α} {i : Nat} (h : o = xs[i]?) (hi : i < xs.length) : ∃ y, o = some y := ⟨_, h.trans (List.getElem?_eq_getElem hi)⟩
theorem cut_eq {xs : List Value} {o n : Nat} {l rest : List Value} (h : (xs.drop o).take n = l) (hr : xs.drop (o + n) = rest) : xs.drop o = l ++ rest := by
 rw [← List.take_append_drop n (xs.drop o), h, List.drop_drop, hr]
end
end Go.Proofs.YtiijepimkgaccaaGreat
namespace Go.Proofs.YtiijepimkgaccaaGreat
open Go.RowKit Go.ChangeShapes Go.WideShapes
section
variable {H : Type} {enc : TypeId × Value → H} {w : World} {r : Reach} {b0 base : Nat} {spare : Nat → Bool} {held : Bool}
end
end Go.Proofs.YtiijepimkgaccaaGreat
namespace Go.Proofs.YtiijepimkgaccaaGreat
open Go.RowKit Go.ChangeShapes Go.WideShapes
theorem row_cert : RowT Tryz.prog 43 137 := ⟨_, Tryz.underlying43, by kernel_rfl, by kernel_rfl⟩
section
variable {H : Type} {enc : TypeId × Value → H} {w : World} {r : Reach} {b0 base : Nat} {spare : Nat → Bool} {held : Bool}
end
end Go.Proofs.YtiijepimkgaccaaGreat
namespace Go.Proofs.YtiijepimkgaccaaGreat
open Go.RowKit Go.Shelf
def numsB (s h p : Nat) (k : Nat) : List UInt8 := if k = 0 then [] else if k = 1 then numB s else if k = 2 then numB s ++ numB h else numB s ++ numB h ++ numB p
theorem hput_any (x : Hdr) (w : World) (hx : x.ok) : Calls Tryz.prog 56 #[.agg (hdrV x).toArray] w fun e w' => ∃ A c, e = .returned (.tuple #[.slice A (hformB x).length c, .bool (rightH x)]) ∧ Sl w' w'.heap.size 1 A (hformB x).length ((hformB x).map B) ∧ (hformB x).length ≤ c ∧ Grow w w' := by
 have HR := kp (fun w => hright_any x w hx);have HXO := kp hx;have HL := kp (hdrV_length hx);obtain ⟨r, hr⟩ := xe (rightH x);have HRR := kp hr;unfold hformB;rw [← hr] at HR ⊢;clear hr hx;obtain ⟨cs, hcs⟩ := xe (hdrV x);have HCS := kp hcs;rw [← hcs] at HR HL ⊢;clear hcs;obtain ⟨gh, hgh⟩ := xe w.heap.size;have HG := kp hgh
 go_enter Tryz.func56, Tryz.ntmps56
 go_wp2_with (with_reducible refine wbx 1 ?_);intro w1 hb1 hbw1 hsz1;rw [← hgh] at hb1 hbw1 hsz1 ⊢;have HH := kp hb1;have HB := kq (Grow w w1) (by rw [hgh] at hbw1; exact hbw1);clear hb1 hbw1 hsz1 hgh;go_wp2_with (with_reducible refine wlb 7 row_header HH.o HL.o ?_);refine (HR.o _).mono ?_;rintro e w_ ⟨rfl, y_⟩;replace HH := kp (HH.o.call y_);replace HB := kp (HB.o.grow' y_);clear y_;try clear w1
 cases r with
 | false =>
  go_wp2_with fail
  go_ret2
  exact ⟨none, ⟨0, rfl⟩, Sl.nil, HB.o⟩
 | true =>
  obtain ⟨⟨hs1, hs2⟩, ⟨hh1, hh2⟩, hp1, hp2⟩ := rightH_iff.1 HRR.o.symm;obtain ⟨_, _, _, hpl, hrl⟩ := HXO.o;obtain ⟨xs, xh, xp, prev, root⟩ := x;obtain ⟨ns, rfl⟩ := nat_of hs1;obtain ⟨nh, rfl⟩ := nat_of (show 0 ≤ xh by simp only at hh1; omega);obtain ⟨np, rfl⟩ := nat_of hp1;simp only at hs2 hh1 hh2 hp2 hpl hrl;have hDP := kp (dig_map hpl);have hDR := kp (dig_map hrl);have us := conv_u64 (n := ns) (by omega); have uh := conv_u64 (n := nh) (by omega); have up := conv_u64 (n := np) (by omega);have ls := numB_le (n := ns) (by omega); have lh := numB_le (n := nh) (by omega); have lp := numB_le (n := np) (by omega);have HFE := kq (putHB ⟨(ns : Int), (nh : Int), (np : Int), prev, root⟩ = numB ns ++ numB nh ++ numB np ++ prev ++ root) (by unfold putHB; simp only [Int.toNat_natCast]);go_wp2_with (with_reducible refine wal 4 zero_pen ?_);intro w3 hb3 hbw3 hsz3;obtain ⟨g, hg⟩ := xe w_.heap.size;rw [← hg] at hb3 hsz3 hbw3 ⊢;have HHB := kp (HH.o.below hbw3 (by have := HH.o.lt; omega));have HB3 := kq (Grow w w3) (HB.o.grow' (by rw [hg] at hbw3; exact hbw3));have hghlt := HH.o.lt;have hwlt := HB.o.size;rw [HCS.o] at HHB;clear HH HB HR HRR HL HCS;have HPB := kp hb3;have c0 := HHB.o.at_ (hdr_at HXO.o).1;have c1 := HHB.o.at_ (hdr_at HXO.o).2.1;have c2 := HHB.o.at_ (hdr_at HXO.o).2.2;clear hb3 hbw3;go_wp2_with fail;generalize hw4 : World.alloc w3 _ = w4;obtain ⟨hX, hb, hs⟩ := alloc_eq hw4;have hgr2 : w_.heap.size + 1 = w3.heap.size := by omega
  rw [hgr2];obtain ⟨gr, hgr⟩ := xe w3.heap.size;rw [← hg, ← hgr];rw [← hgr] at hX hs;clear hgr2;obtain ⟨K, hK⟩ : ∃ K : Nat → Prop, K = fun k => k < g ∨ k = gr := ⟨_, rfl⟩
  have hKI : ∀ k, K k ↔ (k < g ∨ k = gr) := fun k => by rw [hK]
  have HP := kp (PenAt.new (K := K) (HPB.o.grow hb) (fun k hk => by have := (hKI k).1 hk; omega));have HKH := kq (K gh) ((hKI gh).2 (.inl (by omega)));have HKG := kq (K gr) ((hKI gr).2 (.inr rfl));have HKW := kq (∀ k, k < w.heap.size → K k) (fun k hk => (hKI k).2 (.inl (by omega)));have HB4 := kq (Grow w w4) (HB3.o.grow' hb);have HH4 := kp (HHB.o.grow hb);have HRW := kq (Blk w4 gr 3 [.int .i64 (ns : Int), .int .i64 (nh : Int), .int .i64 (np : Int)]) hX;clear hX hb hs hw4 hgr hK hKI HPB HHB HB3 c0 c1 c2 hghlt hwlt hsz3 hg;go_loopw [18] (fun iv wr => ∃ k : Nat, k ≤ 3 ∧ iv = .int .i64 k ∧ Hid (PenAt wr K g (numsB ns nh np k)) ∧ Hid (Kept K w4 wr)) (fun iv _ => 3 - (intOf iv).toNat)
  case atStart => exact ⟨0, by omega, rfl, HP, Kept.refl _ _⟩
  case round =>
   obtain ⟨k, hk, rfl, hp, hkk⟩ := hrel;have HRW2 := kp (hkk.o.blk HRW.o HKG.o);obtain rfl | rfl | rfl | rfl : k = 0 ∨ k = 1 ∨ k = 2 ∨ k = 3 := by omega
   ·have cr := HRW2.o.at_ (i := 0) rfl;go_wp2_with fail;refine (num_any g ns K ([]) _ hp.o (by simp) (by omega)).mono ?_;rintro e w5 ⟨rfl, hp5, hk5⟩;have HP5 := kq (PenAt w5 K g (numsB ns nh np 1)) hp5;have HK5 := kp (hkk.o.trans hk5);clear hp5 hk5 cr;go_wp2_with fail;go_roundw
    case rel => exact ⟨1, by omega, rfl, HP5, HK5⟩
    case measure => simp [intOf]
   ·have cr := HRW2.o.at_ (i := 1) rfl;go_wp2_with fail;refine (num_any g nh K (numB ns) _ hp.o (by omega) (by omega)).mono ?_;rintro e w5 ⟨rfl, hp5, hk5⟩;have HP5 := kq (PenAt w5 K g (numsB ns nh np 2)) hp5;have HK5 := kp (hkk.o.trans hk5);clear hp5 hk5 cr;go_wp2_with fail;go_roundw
    case rel => exact ⟨2, by omega, rfl, HP5, HK5⟩
    case measure => simp [intOf]
   ·have cr := HRW2.o.at_ (i := 2) rfl;go_wp2_with fail;refine (num_any g np K (numB ns ++ numB nh) _ hp.o (by simp only [List.length_append]; omega) (by omega)).mono ?_;rintro e w5 ⟨rfl, hp5, hk5⟩;have HP5 := kq (PenAt w5 K g (numsB ns nh np 3)) hp5;have HK5 := kp (hkk.o.trans hk5);clear hp5 hk5 cr;go_wp2_with fail;go_roundw
    case rel => exact ⟨3, by omega, rfl, HP5, HK5⟩
    case measure => simp [intOf]
   ·have HP := kq (PenAt wr K g (numB ns ++ numB nh ++ numB np)) hp.o;have HKK := hkk;have HH := kp (hkk.o.blk HH4.o HKH.o);clear HRW2 hp hkk HRW HH4;obtain ⟨w_, hw_⟩ : ∃ w_ : World, w_ = wr := ⟨_, rfl⟩;subst hw_;have hm_ := midP HXO.o HH.o;go_wp2_with (with_reducible first | refine wpl_loadm (o := ⟨some 27, _, _, _, _, _⟩) rfl rfl row_aid hm_ rfl (by rw [List.length_map]; exact hpl) ?_);refine (pid_any g K (numB ns ++ numB nh ++ numB np) hDP.o _ HP.o (by simp only [List.length_append]; omega)).mono ?_;rintro e v_ ⟨rfl, hp_, hk_⟩;have HH_ := kp (hk_.blk HH.o HKH.o);have HKK_ := kp (HKK.o.trans hk_);have HP_ := kp hp_;clear hp_ hk_ HH HKK HP;have HH := HH_;have HKK := HKK_;have HP := HP_;clear HH_ HKK_ HP_;try clear w_
    rename World => w_;try clear hm_
    have hm_ := midR HXO.o HH.o;go_wp2_with (with_reducible first | refine wpl_loadm (o := ⟨some 30, _, _, _, _, _⟩) rfl rfl row_aid hm_ rfl (by rw [List.length_map]; exact hrl) ?_);refine (pid_any g K (numB ns ++ numB nh ++ numB np ++ prev) hDR.o _ HP.o (by simp only [List.length_append]; omega)).mono ?_;rintro e v_ ⟨rfl, hp_, hk_⟩;have HH_ := kp (hk_.blk HH.o HKH.o);have HKK_ := kp (HKK.o.trans hk_);have HP_ := kp hp_;clear hp_ hk_ HH HKK HP;have HH := HH_;have HKK := HKK_;have HP := HP_;clear HH_ HKK_ HP_;try clear w_
    rename World => w_;try clear hm_
    go_wp2_with fail;refine (pbytes_any g K (numB ns ++ numB nh ++ numB np ++ prev ++ root) _ HP.o (by simp only [List.length_append]; omega)).mono ?_;rintro e w6 ⟨A', c', rfl, ho, hc, hg5⟩;have HO := kp (Sl.of_own ho);have HC := kp hc;have HB6 := kq (Grow w w6) ((Below.trans (B := w.heap.size) HB4.o (HKK.o.below HKW.o)).grow' hg5);clear ho hc hg5;go_wp2_with fail
    go_ret2
    rw [HFE.o];exact ⟨A', c', by simp [List.length_append, hpl, hrl], HO.o, HC.o, HB6.o⟩
theorem built_id0 : Tryz.prog.built 32 [] = some (zeroD.map B).toArray := by kernel_rfl
theorem rhright_any (x : Hdr) (w : World) (hx : x.ok) : Calls Tryz.prog 44 #[.agg (hdrV x).toArray] w fun e w' => e = .returned (.bool (rightH x)) ∧ Below w.heap.size w w' := by
 obtain ⟨res, hres⟩ := xe (rightH x);rw [← hres];unfold rightH inB at hres;have HA := kp (hdr_at hx);obtain ⟨cs, hcs⟩ := xe (hdrV x);rw [← hcs] at HA ⊢;clear hcs hx;obtain ⟨k0, hk0⟩ := xe x.shard;obtain ⟨k1, hk1⟩ := xe x.height;obtain ⟨k2, hk2⟩ := xe x.epoch;rw [← hk0, ← hk1, ← hk2] at HA hres;clear hk0 hk1 hk2;obtain ⟨b0, hb0⟩ : ∃ b, decide (0 ≤ k0) = b := ⟨_, rfl⟩;obtain ⟨b1, hb1⟩ : ∃ b, decide (k0 ≤ 63) = b := ⟨_, rfl⟩;obtain ⟨b2, hb2⟩ : ∃ b, decide (1 ≤ k1) = b := ⟨_, rfl⟩;obtain ⟨b3, hb3⟩ : ∃ b, decide (k1 ≤ 1099511627776) = b := ⟨_, rfl⟩;obtain ⟨b4, hb4⟩ : ∃ b, decide (0 ≤ k2) = b := ⟨_, rfl⟩;obtain ⟨b5, hb5⟩ : ∃ b, decide (k2 ≤ 1099511627776) = b := ⟨_, rfl⟩;rw [hb0, hb1, hb2, hb3, hb4, hb5] at hres;have HRES := kp hres;clear hres;obtain ⟨g, hg⟩ := xe w.heap.size;have HG := kp hg
 go_enter Tryz.func44, Tryz.ntmps44
 go_wp2_with (with_reducible refine wbx 1 ?_);intro w1 hb1 hbw1 hsz1;rw [← hg] at hb1 hbw1 hsz1 ⊢;have HB := kq (Grow w w1) (by rw [hg] at hbw1; exact hbw1);have c0 := hb1.at_ HA.o.1;have c1 := hb1.at_ HA.o.2.1;have c2 := hb1.at_ HA.o.2.2;clear hb1 hbw1 hsz1 hg;cases b0
 ·go_wp2_with fail;go_ret
  exact ⟨ret_bool (by rw [HRES.o]; simp), HB.o⟩
 cases b1
 ·go_wp2_with fail;go_ret
  exact ⟨ret_bool (by rw [HRES.o]; simp), HB.o⟩
 cases b2
 ·go_wp2_with fail;go_ret
  exact ⟨ret_bool (by rw [HRES.o]; simp), HB.o⟩
 cases b3
 ·go_wp2_with fail;go_ret
  exact ⟨ret_bool (by rw [HRES.o]; simp), HB.o⟩
 cases b4
 ·go_wp2_with fail;go_ret
  exact ⟨ret_bool (by rw [HRES.o]; simp), HB.o⟩
 cases b5
 ·go_wp2_with fail;go_ret
  exact ⟨ret_bool (by rw [HRES.o]; simp), HB.o⟩
 go_wp2_with fail;go_ret
 exact ⟨ret_bool (by rw [HRES.o]; rfl), HB.o⟩
theorem reright_any (x : Ent) (w : World) (hx : x.ok) : Calls Tryz.prog 42 #[.agg (entV x).toArray] w fun e w' => e = .returned (.bool (rightE x)) ∧ Below w.heap.size w w' := by
 obtain ⟨res, hres⟩ := xe (rightE x);rw [← hres];unfold rightE inB at hres;have HA := kp (ent_at hx);obtain ⟨cs, hcs⟩ := xe (entV x);rw [← hcs] at HA ⊢;clear hcs hx;obtain ⟨k0, hk0⟩ := xe x.kind;obtain ⟨k1, hk1⟩ := xe x.shard;obtain ⟨k2, hk2⟩ := xe x.amount;obtain ⟨k3, hk3⟩ := xe x.why;obtain ⟨k4, hk4⟩ := xe x.epoch;rw [← hk0, ← hk1, ← hk2, ← hk3, ← hk4] at HA hres;clear hk0 hk1 hk2 hk3 hk4;obtain ⟨b0, hb0⟩ : ∃ b, decide (1 ≤ k0) = b := ⟨_, rfl⟩;obtain ⟨b1, hb1⟩ : ∃ b, decide (k0 ≤ 3) = b := ⟨_, rfl⟩;obtain ⟨b2, hb2⟩ : ∃ b, decide (0 ≤ k1) = b := ⟨_, rfl⟩;obtain ⟨b3, hb3⟩ : ∃ b, decide (k1 ≤ 63) = b := ⟨_, rfl⟩;obtain ⟨b4, hb4⟩ : ∃ b, decide (k2 ≤ 4611686018427387904) = b := ⟨_, rfl⟩;obtain ⟨b5, hb5⟩ : ∃ b, decide (0 ≤ k3) = b := ⟨_, rfl⟩;obtain ⟨b6, hb6⟩ : ∃ b, decide (k3 ≤ 63) = b := ⟨_, rfl⟩;obtain ⟨b7, hb7⟩ : ∃ b, decide (0 ≤ k4) = b := ⟨_, rfl⟩;obtain ⟨b8, hb8⟩ : ∃ b, decide (k4 ≤ 1099511627776) = b := ⟨_, rfl⟩;rw [hb0, hb1, hb2, hb3, hb4, hb5, hb6, hb7, hb8] at hres;have HRES := kp hres;clear hres;obtain ⟨g, hg⟩ := xe w.heap.size;have HG := kp hg
 go_enter Tryz.func42, Tryz.ntmps42
 go_wp2_with (with_reducible refine wbx 1 ?_);intro w1 hb1 hbw1 hsz1;rw [← hg] at hb1 hbw1 hsz1 ⊢;have HB := kq (Grow w w1) (by rw [hg] at hbw1; exact hbw1);have c0 := hb1.at_ HA.o.1;have c1 := hb1.at_ HA.o.2.1;have c2 := hb1.at_ HA.o.2.2.1;have c3 := hb1.at_ HA.o.2.2.2.1;have c4 := hb1.at_ HA.o.2.2.2.2;clear hb1 hbw1 hsz1 hg;cases b0
 ·go_wp2_with fail;go_ret
  exact ⟨ret_bool (by rw [HRES.o]; simp), HB.o⟩
 cases b1
 ·go_wp2_with fail;go_ret
  exact ⟨ret_bool (by rw [HRES.o]; simp), HB.o⟩
 cases b2
 ·go_wp2_with fail;go_ret
  exact ⟨ret_bool (by rw [HRES.o]; simp), HB.o⟩
 cases b3
 ·go_wp2_with fail;go_ret
  exact ⟨ret_bool (by rw [HRES.o]; simp), HB.o⟩
 cases b4
 ·go_wp2_with fail;go_ret
  exact ⟨ret_bool (by rw [HRES.o]; simp), HB.o⟩
 cases b5
 ·go_wp2_with fail;go_ret
  exact ⟨ret_bool (by rw [HRES.o]; simp), HB.o⟩
 cases b6
 ·go_wp2_with fail;go_ret
  exact ⟨ret_bool (by rw [HRES.o]; simp), HB.o⟩
 cases b7
 ·go_wp2_with fail;go_ret
  exact ⟨ret_bool (by rw [HRES.o]; simp), HB.o⟩
 cases b8
 ·go_wp2_with fail;go_ret
  exact ⟨ret_bool (by rw [HRES.o]; simp), HB.o⟩
 go_wp2_with fail;go_ret
 exact ⟨ret_bool (by rw [HRES.o]; rfl), HB.o⟩
end Go.Proofs.YtiijepimkgaccaaGreat

/- The document's tag: seisinref06.Of, Sign. -/
import Derived.Test.YtiijepimkgaccaaGreatCommandLongRe11
import Derived.ChangeSame
import Derived.Deep.Slices
import Derived.Laws.ResultCell
set_option linter.unusedSimpArgs false
set_option linter.unusedVariables false
set_option maxRecDepth 100000
set_option maxHeartbeats 16000000
namespace Go.Proofs.YtiijepimkgaccaaGreat
open Go.RowKit Go.Shelf
def Apart (A O : Option Addr) : Prop := ∀ g, A.map Addr.block = some g → O.map Addr.block ≠ some g
theorem Apart.symm {A O : Option Addr} (h : Apart A O) : Apart O A := fun g h1 h2 => h g h2 h1
theorem apart_app {w : World} {base sz n c : Nat} {e : TypeId} {A A1 O : Option Addr} {xs : List Value} (h : Apart A O) (ho : w.ownsRow base e sz (.slice O n c) n xs) (hA : A1.map Addr.block = A.map Addr.block ∨ ∃ j, A1.map Addr.block = some (w.heap.size + j)) : Apart A1 O := by
 intro g h1 h2;rcases hA with hA | ⟨j, hA⟩
 ·exact h g (hA ▸ h1) h2
 ·have := (ho.lt g (by cases O <;> simp_all [Value.ownBlock])).2;rw [hA] at h1;simp only [Option.some.injEq] at h1;omega
theorem own_apart {w w2 : World} {base sz n c : Nat} {e : TypeId} {A O : Option Addr} {xs : List Value} (ho : w.ownsRow base e sz (.slice O n c) n xs) (hg : w.grownBy w2 (A.map Addr.block)) (h : Apart A O) : w2.ownsRow base e sz (.slice O n c) n xs :=
 own_kept ho hg fun g hO hh => h g hh.symm (by rw [hO]; rfl)
theorem app_new {w : World} {A A1 : Option Addr} {k : Nat} (h : A1.map Addr.block = A.map Addr.block ∨ ∃ a, A1 = some a ∧ a.block = w.heap.size + k) : A1.map Addr.block = A.map Addr.block ∨ ∃ j, A1.map Addr.block = some (w.heap.size + j) :=
 h.imp_right fun ⟨a, h1, h2⟩ => ⟨k, by rw [h1]; exact congrArg some h2⟩
def keyB (key : List UInt8) : List UInt8 := if 64 < key.length then sha key else key
theorem padB_key (key : List UInt8) : padB key = keyB key ++ List.replicate (64 - (keyB key).length) 0 := rfl
theorem padB_lt (key : List UInt8) (k : Nat) (x : UInt8) (h : (keyB key)[k]? = some x) : (padB key)[k]? = some x := by
 rw [padB_key, List.getElem?_append_left (List.getElem?_eq_some_iff.1 h).1]; exact h
theorem padB_ge (key : List UInt8) (k : Nat) (h : (keyB key).length ≤ k) (hk : k < 64) : (padB key)[k]? = some 0 := by
 rw [padB_key, List.getElem?_append_right h, List.getElem?_replicate, if_pos (by omega)]
def turnTo (p : List UInt8) (m : UInt8) (k : Nat) : List UInt8 := (p.take k).map (· ^^^ m)
theorem turnTo_snoc (p : List UInt8) (m : UInt8) (k : Nat) (x : UInt8) (h : p[k]? = some x) : turnTo p m (k + 1) = turnTo p m k ++ [x ^^^ m] := by
 unfold turnTo; rw [List.take_add_one, h]; simp
theorem turnTo_all (p : List UInt8) (m : UInt8) (k : Nat) (h : p.length ≤ k) : turnTo p m k = p.map (· ^^^ m) := by unfold turnTo; rw [List.take_of_length_le h]
attribute [irreducible] turnTo
theorem xor54 (x : UInt8) : Op.intBits .xor .u8 (b8 x) 54 = pure (.int .u8 (b8 (x ^^^ 54))) := xor_b x 54
theorem xor92 (x : UInt8) : Op.intBits .xor .u8 (b8 x) 92 = pure (.int .u8 (b8 (x ^^^ 92))) := xor_b x 92
def TInv (w wr : World) (A O : Option Addr) (c o k : Nat) (p : List UInt8) : Prop :=
 wr.ownsRow w.heap.size 5 1 (.slice A k c) k ((turnTo p 54 k).map B) ∧ wr.ownsRow w.heap.size 5 1 (.slice O k o) k ((turnTo p 92 k).map B) ∧ Apart A O ∧ Below w.heap.size w wr
theorem t_step {w wr w2 w3 : World} {A O A1 O1 : Option Addr} {c o c1 o1 k : Nat} {p : List UInt8} {x : UInt8} (hx : p[k]? = some x) (h : TInv w wr A O c o k p)
  (ho : w2.ownsRow w.heap.size 5 1 (.slice A1 (k + 1) c1) (k + 1) ((turnTo p 54 k).map B ++ [B (x ^^^ 54)])) (hg : wr.grownBy w2 (A.map Addr.block)) (hA : A1.map Addr.block = A.map Addr.block ∨ ∃ a, A1 = some a ∧ a.block = wr.heap.size + 1)
  (ho3 : w3.ownsRow w.heap.size 5 1 (.slice O1 (k + 1) o1) (k + 1) ((turnTo p 92 k).map B ++ [B (x ^^^ 92)])) (hg3 : w2.grownBy w3 (O.map Addr.block)) (hO : O1.map Addr.block = O.map Addr.block ∨ ∃ a, O1 = some a ∧ a.block = w2.heap.size + 1) :
  TInv w w3 A1 O1 c1 o1 (k + 1) p := by
 obtain ⟨h1, h2, h3, h4⟩ := h;have a1 : Apart A1 O := apart_app h3 h2 (app_new hA);have o2 := own_apart h2 hg h3;have a2 : Apart O1 A1 := apart_app a1.symm ho (app_new hO);refine ⟨?_, ?_, a2.symm, app_below (app_below h4 h1 hg) o2 hg3⟩
 ·rw [turnTo_snoc p 54 k x hx, List.map_append]; exact own_apart ho hg3 a1.symm
 ·rw [turnTo_snoc p 92 k x hx, List.map_append]; exact ho3
theorem t_mid {w wr w2 : World} {A O : Option Addr} {c o k : Nat} {p : List UInt8} (h : TInv w wr A O c o k p)
  (hg : wr.grownBy w2 (A.map Addr.block)) : w2.ownsRow w.heap.size 5 1 (.slice O k o) k ((turnTo p 92 k).map B) ∧ w.heap.size ≤ w2.heap.size :=
 ⟨own_apart h.2.1 hg h.2.2.1, Nat.le_trans h.2.2.2.size hg.size⟩
def zero8 : UInt8 := 0
theorem xor54z : Op.intBits .xor .u8 0 54 = pure (.int .u8 (b8 (zero8 ^^^ 54))) := xor_b 0 54
theorem xor92z : Op.intBits .xor .u8 0 92 = pure (.int .u8 (b8 (zero8 ^^^ 92))) := xor_b 0 92
theorem padB_z (key : List UInt8) (k : Nat) (h : (keyB key).length ≤ k) (hk : k < 64) : (padB key)[k]? = some zero8 := padB_ge key k h hk
attribute [irreducible] zero8
theorem tbytes_n {xs : List Value} {d : List UInt8} (hx : Dig xs d) (w : World) :
  Calls Tryz.prog 29 #[.agg xs.toArray] w fun e w' => ∃ A' n' c', e = .returned (.slice A' n' c') ∧ Sl w' w'.heap.size 1 A' n' (d.map B) ∧ Below w.heap.size w w' :=
 (tbytes_any hx w).mono fun e w' ⟨A', c', h1, h2, h3, h4⟩ => ⟨A', 32, c', h1, h2, h4⟩
attribute [local go_sem high] xor54 xor92 xor54z xor92z
theorem trof_any (A A2 : Option Addr) (n c n2 c2 : Nat) (key bs : List UInt8) {xs : List Value} (hx : Dig xs (tagB key bs)) (w : World) (hs : Sl w w.heap.size 1 A n (key.map B)) (hs2 : Sl w w.heap.size 1 A2 n2 (bs.map B)) (hn : n ≤ 1099511627776) (hn2 : n2 ≤ 1000000) :
  Calls Tryz.prog 48 #[.slice A n c, .slice A2 n2 c2] w fun e w' => e = .returned (.agg xs.toArray) ∧ Below w.heap.size w w' := by
 have HS := kp hs; have HD := kp hx; have HS2 := kp hs2;have HB := kp (Below.refl w.heap.size w);have HL := kq (key.length = n) (by have := hs.len; simpa using this);have HL2 := kq (bs.length = n2) (by have := hs2.len; simpa using this);clear hs hx hs2;have HG := kp (Nat.le_refl w.heap.size);obtain ⟨ys, hys⟩ := xe ((sha key).map B);have HY := kq (Dig ys (sha key)) (by rw [hys]; exact Dig.sha _);obtain ⟨zs, hzs⟩ := xe ((sha ((padB key).map (· ^^^ 54) ++ bs)).map B);have HZ := kq (Dig zs _) (by rw [hzs]; exact Dig.sha _);have HPL := kp (padB_length key);have hrid := row_id;have HRI := kp hrid;clear hys hzs hrid;have HAB := kp (all_bytes bs);have HAZ := kp (all_bytes (sha ((padB key).map (· ^^^ 54) ++ bs)));by_cases h64 : 64 < n
 focus
  go_enter Tryz.func48, Tryz.ntmps48
  go_wp2_with (with_reducible refine wal 4 zero_id ?_);intro v_ b_ y_ hsz2_;have HX_ := kp (at_mk b_ len_id);clear b_ hsz2_;replace HB := kp (HB.o.grow' y_);replace HS := kp (HS.o.grow y_);replace HS2 := kp (HS2.o.grow y_);have HR := HX_;clear y_ HX_;try clear w_
  rename World => w_;go_wp2_with fail;refine (dof_any _ _ _ HY.o _ HS.o hn).mono ?_;rintro e w_ ⟨rfl, y_⟩;replace HB := kp (HB.o.grow' y_);replace HR := kp (HR.o.grow y_);replace HS2 := kp (HS2.o.grow y_);clear y_;go_wp2_with fail;refine (tbytes_n HY.o _).mono ?_;rintro e w_ ⟨AK, nk, cK, rfl, hs_, y_⟩;replace HB := kp (HB.o.grow' y_);replace HR := kp (HR.o.grow y_);replace HS2 := kp (HS2.o.grow y_);clear y_;have HK := kq (Sl w_ w_.heap.size 1 AK nk ((keyB key).map B)) (by unfold keyB; rw [if_pos (by rw [HL.o]; exact h64)]; exact hs_);clear hs_ HS HL h64;go_wp2_with fail;generalize hna : Value.slice A n c = na;clear hna;clear hn
 rotate_left
 focus
  have HK := kq (Sl w w.heap.size 1 A n ((keyB key).map B)) (by unfold keyB; rw [if_neg (by rw [HL.o]; exact h64)]; exact HS.o)
  go_enter Tryz.func48, Tryz.ntmps48
  go_wp2_with (with_reducible refine wal 4 zero_id ?_);intro v_ b_ y_ hsz2_;have HX_ := kp (at_mk b_ len_id);clear b_ hsz2_;replace HB := kp (HB.o.grow' y_);replace HK := kp (HK.o.grow y_);replace HS2 := kp (HS2.o.grow y_);have HR := HX_;clear y_ HX_;try clear w_
  rename World => w_;go_wp2_with fail;clear HS HL h64;clear hn;generalize hnk : n = nk at HK ⊢;clear hnk
 all_goals
  have HKL := kq ((keyB key).length = nk) (by have := HK.o.len; simpa using this);go_loopw [5, 6, 7] (fun v u i wr => ∃ k : Nat, ∃ A' c' O' o', k ≤ 64 ∧ i = .int .i64 k ∧ v = .slice A' k c' ∧ u = .slice O' k o' ∧ Hid (TInv w_ wr A' O' c' o' k (padB key))) (fun _ _ i _ => 64 - (intOf i).toNat)
  case atStart => exact ⟨0, none, 0, none, 0, by omega, rfl, rfl, rfl, kp ⟨by unfold turnTo; exact World.ownsRow_nil _ _ _ _, by unfold turnTo; exact World.ownsRow_nil _ _ _ _, (by intro g h; cases h), Below.refl _ _⟩⟩
  case round =>
   obtain ⟨k, A3, c3, O3, o3, hk, rfl, rfl, rfl, hinv⟩ := hrel;by_cases hlt : k < 64
   ·by_cases hkn : k < nk
    focus
     obtain ⟨b, off, u, rfl, hb, hu, hc⟩ := (HK.o.grow hinv.o.2.2.2).at_ hkn;obtain ⟨x, hx⟩ : ∃ x, (keyB key)[k]? = some x := ⟨_, List.getElem?_eq_getElem (by rw [HKL.o]; exact hkn)⟩;have hu2 : u = .int .u8 (b8 x) := by rw [List.getElem?_map, hx] at hu; cases hu; rfl
     subst hu2;have HX := kp (padB_lt key k x hx);clear hx hu hb
    rotate_left
    focus
     have HX := kp (padB_z key k (by rw [HKL.o]; omega) hlt)
    all_goals
     have gk : (k : Int) < 64 := by omega
     go_wp2_with (at_builtin; refine wpl_app1 rfl rfl el_u8 hinv.o.1 rfl (m := 1) rfl rfl ?_ ?_ ?_ hinv.o.2.2.2.size ?_)
     ·rfl
     ·omega
     ·omega
     ·intro A4 c4 w4 ho hg hA;have HM := kp (t_mid hinv.o hg);have HO := kp ho; have HG4 := kp hg; have HA4 := kp hA;clear ho hg hA;try clear hc
      go_wp2_with (at_builtin; refine wpl_app1 rfl rfl el_u8 HM.o.1 rfl (m := 1) rfl rfl ?_ ?_ ?_ HM.o.2 ?_)
      ·rfl
      ·omega
      ·omega
      ·intro O4 o4 w5 ho5 hg5 hO5;have HI := kp (t_step HX.o hinv.o HO.o HG4.o HA4.o ho5 hg5 hO5);clear ho5 hg5 hO5 HO HG4 HA4 HM;go_wp2_with fail;go_roundw
       case rel => exact ⟨k + 1, A4, c4, O4, o4, by omega, by go_num, rfl, rfl, HI⟩
       case measure => simp [intOf]; omega
   ·obtain rfl : k = 64 := by omega
    have HR0 := kp (HR.o.grow hinv.o.2.2.2);have HB0 := kp (HB.o.grow' hinv.o.2.2.2);have HS0 := kp (HS2.o.grow hinv.o.2.2.2);have HI := kp hinv.o.1;have HO := kp hinv.o.2.1;have HAP := kp hinv.o.2.2.1;have HIB := kp hinv.o.2.2.2;have gk : ¬ ((64 : Nat) : Int) < 64 := by omega
    clear hinv;go_wp2_with (at_builtin; refine wpl_apps rfl rfl el_u8 HI.o rfl HS0.o rfl HAB.o (by omega) (by omega) HIB.o.size ?_)
    ·intro A4 c4 w4 ho4 hg4 hA4;have HG4 := kp (app_below HIB.o HI.o hg4);have HO4 := kp (own_apart HO.o hg4 HAP.o)
     have HI4 := kp (show Sl w4 w4.heap.size 1 A4 (64 + n2) (((padB key).map (· ^^^ 54) ++ bs).map B) by
      have h1 := Sl.of_own ho4;rw [turnTo_all _ _ _ (by rw [HPL.o]; exact Nat.le_refl _)] at h1
      rw [List.map_append]; exact h1)
     clear ho4 hg4 hA4 HI HO HIB HS0 HR0 HB0;go_wp2_with fail;refine (dof_any _ _ _ HZ.o _ HI4.o (by omega)).mono ?_;rintro e w5 ⟨rfl, hb5⟩;have HG5 := kp (Grow.trans _ _ _ HG4.o hb5);have HO5 := kp (own_below HO4.o hb5);clear hb5 HG4 HO4 HI4;go_wp2_with fail;refine (tbytes_any HZ.o _).mono ?_;rintro e w6 ⟨A6, c6, rfl, hs6, hc6, hb6⟩;have HG6 := kp (Grow.trans _ _ _ HG5.o hb6);have HO6 := kp (own_below HO5.o hb6);have HS6 := kp hs6;clear hb6 HG5 HO5 hs6 hc6;go_wp2_with (at_builtin; refine wpl_apps rfl rfl el_u8 HO6.o rfl HS6.o rfl HAZ.o (by omega) (by omega) HG6.o.size ?_)
     ·intro A7 c7 w7 ho7 hg7 hA7;have HG7 := kp (app_below HG6.o HO6.o hg7)
      have HI7 := kp (show Sl w7 w7.heap.size 1 A7 (64 + 32) (((padB key).map (· ^^^ 92) ++ sha ((padB key).map (· ^^^ 54) ++ bs)).map B) by
       have h1 := Sl.of_own ho7;rw [turnTo_all _ _ _ (by rw [HPL.o]; exact Nat.le_refl _)] at h1
       rw [List.map_append]; exact h1)
      clear ho7 hg7 hA7 HG6 HO6 HS6;go_wp2_with fail;refine (dof_any _ _ _ HD.o _ HI7.o (by omega)).mono ?_;rintro e w8 ⟨rfl, hb8⟩;have HG8 := kp (Grow.trans _ _ _ HG7.o hb8);have HR8 := kp (HR.o.grow HG8.o);have HB8 := kp (HB.o.grow' HG8.o);clear hb8 HG7 HI7 HG8 HR HB;have HR := HR8; have HB := HB8; clear HR8 HB8;go_wp2_with (with_reducible refine wsb row_id HR.o.blk HR.o.len HD.o.len HD.o.one ?_);intro v_ b_ g_ hsz2_;replace HB := kp (put_below HB.o HG.o g_);replace HR := kp (at_mk b_ HD.o.len);clear b_ g_ hsz2_;try clear w_
      rename World => w_;go_wp2_with fail;exact ret_cell rfl HRI.o HR.o.blk rfl HR.o.len rfl ⟨rfl, HB.o⟩
theorem trsign_any (A A2 : Option Addr) (n c n2 c2 : Nat) (seed bs : List UInt8) (s : Nat) (hs64 : s < 256) {xs : List Value} (hx : Dig xs (tagB (tagB seed [UInt8.ofNat s]) bs)) (w : World) (hs : Sl w w.heap.size 1 A n (seed.map B)) (hs2 : Sl w w.heap.size 1 A2 n2 (bs.map B)) (hn : n ≤ 1099511627776) (hn2 : n2 ≤ 1000000) :
  Calls Tryz.prog 16 #[.slice A n c, .int .i64 s, .slice A2 n2 c2] w fun e w' => e = .returned (.agg xs.toArray) ∧ Below w.heap.size w w' := by
 have HS := kp hs; have HD := kp hx; have HS2 := kp hs2;have HB := kp (Below.refl w.heap.size w);clear hs hx hs2;have HG := kp (Nat.le_refl w.heap.size);obtain ⟨ys, hys⟩ := xe ((tagB seed [UInt8.ofNat s]).map B);have HY := kq (Dig ys (tagB seed [UInt8.ofNat s])) ⟨hys, tagB_length _ _⟩;have HW := kq (Value.int .u8 (s : Int) = B (UInt8.ofNat s)) (by simp only [B, b8, UInt8.toNat_ofNat']; congr 1; omega);have hrid := row_id;have HRI := kp hrid;clear hys hrid;have q8 : IntKind.u8.wrap (s : Int) = (s : Int) := IntWalk.u8_in _ (by omega)
 go_enter Tryz.func16, Tryz.ntmps16
 go_wp2_with (with_reducible refine wal 6 zero_id ?_);intro v_ b_ y_ hsz2_;have HX_ := kp (at_mk b_ len_id);clear b_ hsz2_;replace HB := kp (HB.o.grow' y_);replace HS := kp (HS.o.grow y_);replace HS2 := kp (HS2.o.grow y_);have HR := HX_;clear y_ HX_;try clear w_
 rename World => w_;go_wp2_with fail;generalize hw_ : World.alloc w_ _ = v_;obtain ⟨hX_, y_, hs_⟩ := alloc_eq hw_;generalize hg_ : w_.heap.size = g at hX_ hs_ ⊢;have HX := kp hX_;clear hw_ hX_;replace HB := kp (HB.o.grow' y_);replace HS := kp (HS.o.grow y_);replace HS2 := kp (HS2.o.grow y_);replace HR := kp (HR.o.grow y_);clear y_ hs_;clear hg_;try clear w_
 rename World => w_;have HS1 := kq (Sl w_ w_.heap.size 1 (some ⟨g, 0, none⟩) 1 ([UInt8.ofNat s].map B)) (by have h := HX.o.sl (sz := 1) (n := 1) rfl; rw [show [Value.int .u8 (s : Int)] = [UInt8.ofNat s].map B by simp [HW.o]] at h; exact h);go_wp2_with fail;refine (trof_any _ _ _ _ _ _ _ _ HY.o _ HS.o HS1.o hn (by omega)).mono ?_;rintro e w_ ⟨rfl, y_⟩;replace HB := kp (HB.o.grow' y_);replace HS2 := kp (HS2.o.grow y_);replace HR := kp (HR.o.grow y_);clear y_;go_wp2_with fail;refine (tbytes_any HY.o _).mono ?_;rintro e w_ ⟨A3, c3, rfl, hs_, hc_, y_⟩;replace HB := kp (HB.o.grow' y_);replace HS2 := kp (HS2.o.grow y_);replace HR := kp (HR.o.grow y_);clear y_;have HS3 := kp hs_;clear hs_ hc_;go_wp2_with fail;refine (trof_any _ _ _ _ _ _ _ _ HD.o _ HS3.o HS2.o (by omega) hn2).mono ?_;rintro e w_ ⟨rfl, y_⟩;replace HB := kp (HB.o.grow' y_);replace HR := kp (HR.o.grow y_);clear y_;go_wp2_with (with_reducible refine wsb row_id HR.o.blk HR.o.len HD.o.len HD.o.one ?_);intro v_ b_ g_ hsz2_;replace HB := kp (put_below HB.o HG.o g_);replace HR := kp (at_mk b_ HD.o.len);clear b_ g_ hsz2_;try clear w_
 rename World => w_;go_wp2_with fail;exact ret_cell rfl HRI.o HR.o.blk rfl HR.o.len rfl ⟨rfl, HB.o⟩
end Go.Proofs.YtiijepimkgaccaaGreat
namespace Go.Proofs.YtiijepimkgaccaaGreat
open Go.RowKit Go.ChangeShapes Go.WideShapes
section
variable {H : Type} {enc : TypeId × Value → H} {P : Program} {w : World} {base : Nat} {spare : Nat → Bool} {held : Bool}
theorem trod_bytes {t e : TypeId} {n : Nat} {fuel : Nat} {cs : List Value} {x : DataW H × List MemPlace} (ht : P.underlying t = some (.array n e)) (he : P.underlying e = some (.int .u8)) (hce : P.cellsOf e = 1) (hct : P.cellsOf t = n)
  (h : DataW.trod enc P w base spare held fuel t cs = some x) : ∃ ds : List UInt8, cs = ds.map B ∧ ds.length = n := by
 obtain ⟨xs, m, rfl, rfl, hl, hxl, hi⟩ := DataW.trod_array ht h;rw [hct] at hl;refine ⟨cs.map (fun v => match v with | .int _ z => UInt8.ofNat z.toNat | _ => 0), ?_, by rw [List.length_map, hl]⟩
 apply List.ext_getElem?
 intro i;by_cases hin : i < n
 ·have h1 := hi i hin;rw [hce, Nat.mul_one, List.getElem?_eq_getElem (by omega)] at h1;obtain ⟨z, h2, _, h3⟩ := DataW.trod_int he h1
  have h4 : cs[i]? = some (.int .u8 z) := by
   have := congrArg List.head? h2;rw [List.take_one] at this;simpa using this
  have hz := bounds_u8 h3;rw [List.getElem?_map, List.getElem?_map, h4];simp only [Option.map_some, B, b8]
  congr 2
  rw [UInt8.toNat_ofNat'];omega
 ·rw [List.getElem?_eq_none (by omega), List.getElem?_eq_none (by simp; omega)]
end
end Go.Proofs.YtiijepimkgaccaaGreat
namespace Go.Proofs.YtiijepimkgaccaaGreat
open Go.RowKit Go.ChangeShapes Go.WideShapes Go.Deep
section
variable {H : Type} {enc : TypeId × Value → H} {P : Program} {w : World} {r : Reach} {b0 base : Nat} {spare : Nat → Bool} {held : Bool}
theorem flat_len {α : Type} {f : α → List Value} {sz : Nat} : ∀ {l : List α}, (∀ x ∈ l, (f x).length = sz) → (l.flatMap f).length = l.length * sz
 | [], _ => by simp
 | x :: l, h => by
  rw [List.flatMap_cons, List.length_append, h x (by simp), flat_len (l := l) (fun y hy => h y (by simp [hy])), List.length_cons, Nat.succ_mul, Nat.add_comm]
theorem flat_at {α : Type} {f : α → List Value} {sz : Nat} : ∀ {l : List α}, (∀ x ∈ l, (f x).length = sz) → 0 < sz → ∀ {j : Nat} {u : Value}, (l.flatMap f)[j]? = some u → ∃ x, l[j / sz]? = some x ∧ (f x)[j % sz]? = some u
 | [], _, _, j, u, hu => by simp at hu
 | x :: l, h, h0, j, u, hu => by
  rw [List.flatMap_cons] at hu;have hx := h x (by simp);by_cases hj : j < sz
  ·rw [List.getElem?_append_left (by omega)] at hu;refine ⟨x, by rw [Nat.div_eq_of_lt hj]; rfl, by rw [Nat.mod_eq_of_lt hj]; exact hu⟩
  ·rw [List.getElem?_append_right (by omega), hx] at hu;obtain ⟨y, h1, h2⟩ := flat_at (l := l) (fun y hy => h y (by simp [hy])) h0 hu;have e1 : j / sz = (j - sz) / sz + 1 := by rw [← Nat.div_eq_sub_div h0 (by omega)]
   have e2 : j % sz = (j - sz) % sz := by rw [Nat.mod_eq_sub_mod (by omega)]
   exact ⟨y, by rw [e1, List.getElem?_cons_succ]; exact h1, by rw [e2]; exact h2⟩
theorem open_list0 {α : Type} [Inhabited α] (f : α → List Value) (ok : α → Prop) {t e : TypeId} {fuel : Nat} {cs : List Value} {y : DataW H × List MemPlace} {sz : Nat} (ht : P.underlying t = some (.slice e)) (hce : P.cellsOf e = sz) (hsz : 0 < sz)
  (helem : ∀ fuel cs y, cs.length = sz → DataW.trod enc P w base spare held fuel e cs = some y → ∃ x, cs = f x ∧ ok x)
  (hf : DataW.trod enc P w base spare held fuel t cs = some y) :
  ∃ A n c, ∃ l : List α, cs = [.slice A n c] ∧ l.length = n ∧ n ≤ c ∧ c ≤ maxLen ∧ Sl w w.heap.size sz A n (l.flatMap f) ∧ (∀ x ∈ l, ok x) ∧ (∀ x ∈ l, (f x).length = sz) := by
 rcases open_slice ht hf with ⟨hcs, _⟩ | ⟨a, n, c, m, k, D, Pl, hcs, _, hl, hm, hmm, _, hx⟩
 ·subst hcs;exact ⟨none, 0, 0, [], rfl, rfl, Nat.le_refl _, Nat.zero_le _, ⟨by simp, fun h => absurd h (by omega)⟩, by simp, by simp⟩
 ·subst hcs;have hle : n ≤ m := by rw [hmm]; split <;> omega
  rw [hce] at hx
  obtain ⟨X, hX⟩ := choose_lt (n := n) (p := fun i (x : α) => w.cells? base (a.add (i * sz)) sz = some (f x) ∧ (f x).length = sz ∧ ok x) (fun i hi => by
   obtain ⟨cs', h1, h2⟩ := hx i (by omega);obtain ⟨_, hlen, _⟩ := World.cells?_some h1;obtain ⟨x, e, hok⟩ := helem _ _ _ hlen h2
   exact ⟨x, by rw [← e]; exact h1, by rw [← e]; exact hlen, hok⟩)
  have hlen : ∀ x ∈ (List.range n).map X, (f x).length = sz := by
   intro x hx;obtain ⟨i, hi, rfl⟩ := List.mem_map.1 hx;exact (hX i (by simpa using hi)).2.1
  refine ⟨some a, n, c, (List.range n).map X, rfl, by simp, hl, hm, ⟨by rw [flat_len hlen]; simp, fun hn => ?_⟩, ?_, hlen⟩
  ·obtain ⟨b, off, spot⟩ := a;obtain ⟨_, _, h0⟩ := World.cells?_some (hX 0 hn).1;have h00 := h0 0 hsz;have hc0 : ∃ u, w.cell? ((Addr.add ⟨b, off, spot⟩ (0 * sz)).add 0) = some u := ⟨_, by rw [h00, List.getElem?_eq_getElem (by rw [(hX 0 hn).2.1]; exact hsz)]⟩;obtain ⟨u0, hu0⟩ := hc0;have hspot : spot = none := by simpa [Addr.add] using World.cell?_spot hu0
   subst hspot;refine ⟨b, off, rfl, by have := World.block_lt_of_cell? w _ hu0; simpa [Addr.add] using this, fun j u hu => ?_⟩;obtain ⟨x, h1, h2⟩ := flat_at hlen hsz hu;rw [List.getElem?_map] at h1;obtain ⟨i, h3, rfl⟩ := Option.map_eq_some_iff.1 h1
   have hi : j / sz = i ∧ i < n := by
    rcases Nat.lt_or_ge (j / sz) n with hl | hl
    ·rw [List.getElem?_range hl] at h3; cases h3; exact ⟨rfl, hl⟩
    ·rw [List.getElem?_eq_none (by simpa using hl)] at h3; cases h3
   obtain ⟨_, _, hc⟩ := World.cells?_some (hX i hi.2).1;have := hc (j % sz) (Nat.mod_lt _ hsz);rw [h2, Addr.add_lit, Addr.add_lit] at this;rw [← this, ← hi.1];have := Nat.div_add_mod j sz;have e : off + j = off + j / sz * sz + j % sz := by rw [Nat.mul_comm] at this; omega
   rw [e]
  ·intro x hx;obtain ⟨i, hi, rfl⟩ := List.mem_map.1 hx;exact (hX i (by simpa using hi)).2.2
theorem flat_one {α : Type} (g : α → Value) (l : List α) : l.flatMap (fun x => [g x]) = l.map g := by
 induction l with
 | nil => rfl
 | cons x l ih => simp [ih]
theorem trod_u8 {e : TypeId} (he : P.underlying e = some (.int .u8)) {fuel : Nat} {cs : List Value} {y : DataW H × List MemPlace} (h : DataW.trod enc P w base spare held fuel e cs = some y) : ∃ x : UInt8, cs = [B x] ∧ True := by
 obtain ⟨z, h1, _, h2⟩ := DataW.trod_int he h;have hz := bounds_u8 h2;refine ⟨UInt8.ofNat z.toNat, ?_, trivial⟩;rw [h1];simp only [B, b8]
 congr 2
 rw [UInt8.toNat_ofNat']; omega
theorem open_u8s0 {t e : TypeId} {fuel : Nat} {cs : List Value} {y : DataW H × List MemPlace} (ht : P.underlying t = some (.slice e)) (he : P.underlying e = some (.int .u8)) (hce : P.cellsOf e = 1) (h : DataW.trod enc P w base spare held fuel t cs = some y) :
  ∃ A n c, ∃ bs : List UInt8, cs = [.slice A n c] ∧ Sl w w.heap.size 1 A n (bs.map B) ∧ n ≤ c ∧ c ≤ maxLen ∧ bs.length = n := by
 obtain ⟨A, n, c, l, h1, h2, h3, h4, h5, _⟩ := open_list0 (fun x : UInt8 => [B x]) (fun _ => True) ht hce (by omega) (fun fuel cs y _ h => trod_u8 he h) h;exact ⟨A, n, c, l, h1, by rw [← flat_one]; exact h5, h3, h4, h2⟩
end
end Go.Proofs.YtiijepimkgaccaaGreat
namespace Go.Proofs.YtiijepimkgaccaaGreat
open Go.RowKit Go.Shelf
theorem ret_cell2 {P : Program} {w : World} {a : Act} {fn : Func} {p u : Tmp} {ty : TypeId} (h : fn.results = #[.cell p ty, .tmp u]) {n : Nat} (hT : RowT P ty n) {g : Nat} {t : TypeId} {cs : List Value} (hb : Blk w g t cs) (hp : a.tmps.getD p undef = .pointer (some ⟨g, 0, none⟩)) (hn : cs.length = n) (hd : a.defers = [])
  {v : Value} (hv : a.tmps.getD u undef = v) {R : Ending → World → Prop} (hR : R (.returned (.tuple #[.agg cs.toArray, v])) w) : bodyPost P fn R .ret a w := by
 obtain ⟨d, hu, hdd, hi⟩ := hT;refine bodyPost_ret ?_ hd hR;rw [results_cell_tmp h, hp, hv];have hrun := run_loadVar_row (P := P) w g t ty cs.toArray (0, 0) d hb hu (by revert hdd; cases d <;> simp) (by rw [hi]; simp [hn]);simp only [asAddr, Sem.run_pure, Result.andThen_ok, hrun]
theorem info_id : (Tryz.prog.info? 32).map (fun i => (i.zero, i.size, i.bytes)) = some (some (.agg (List.replicate 32 (B 0)).toArray), 32, 32) := by kernel_rfl
theorem el_id : ElemT Tryz.prog 39 32 32 32 := elemT Tryz.underlying39 info_id rfl (by omega)
theorem fold_set_aux : ∀ (ys : List Value) (k : Nat) (z : Array Value), z.size = k + ys.length → ((ys.zipIdx k).foldl (fun cs x => cs.setIfInBounds x.2 x.1) z).toList = z.toList.take k ++ ys
 | [], k, z, h => by
  simp only [List.zipIdx_nil, List.foldl_nil, List.append_nil];rw [List.take_of_length_le (by simpa using Nat.le_of_eq h)]
 | y :: ys, k, z, h => by
  rw [List.zipIdx_cons, List.foldl_cons, fold_set_aux ys (k + 1) _ (by simp only [Array.size_setIfInBounds, List.length_cons] at *; omega)];simp only [Array.toList_setIfInBounds];have hk : k < z.toList.length := by simp only [List.length_cons, Array.length_toList] at *; omega
  rw [List.take_add_one, List.getElem?_set_self hk, Option.toList_some, List.take_set_of_le (Nat.le_refl _), List.append_assoc]
  rfl
theorem fold_set (z : Array Value) (ys : List Value) (h : z.size = ys.length) : (ys.zipIdx.foldl (fun cs x => cs.setIfInBounds x.2 x.1) z).toList = ys := by
 have := fold_set_aux ys 0 z (by omega);simpa using this
def idCells (ds : List (List UInt8)) : List Value := ds.flatMap (·.map B)
theorem idCells_snoc (ds : List (List UInt8)) (d : List UInt8) : idCells (ds ++ [d]) = idCells ds ++ d.map B := by unfold idCells; simp
def Ids (w : World) (A : Option Addr) (n c : Nat) (ds : List (List UInt8)) : Prop := Sl w w.heap.size 32 A n (idCells ds) ∧ ds.length = n ∧ (∀ d ∈ ds, d.length = 32) ∧ n ≤ c
theorem Ids.grow {w w' : World} {A : Option Addr} {n c : Nat} {ds : List (List UInt8)} (h : Ids w A n c ds) (k : Grow w w') : Ids w' A n c ds := ⟨h.1.grow k, h.2⟩
theorem Ids.key {w : World} {A : Option Addr} {n c k : Nat} {ds : List (List UInt8)} (h : Ids w A n c ds) (hk : k < n) : ∃ b off d, A = some ⟨b, off, none⟩ ∧ ds[k]? = some d ∧ d.length = 32 ∧ b < w.heap.size ∧ ∀ j u, (d.map B)[j]? = some u → w.cell? ⟨b, off + k * 32 + j, none⟩ = some u := by
 obtain ⟨h1, h2, h3, h4⟩ := h;obtain ⟨b, off, e, hb, hc⟩ := h1.2 (by omega);have hlen : ∀ x ∈ ds, (x.map B).length = 32 := fun x hx => by rw [List.length_map]; exact h3 x hx
 have hd : ds[k]? = some (ds[k]'(by omega)) := List.getElem?_eq_getElem (by omega);refine ⟨b, off, _, e, hd, h3 _ (List.mem_of_getElem? hd), hb, fun j u hu => ?_⟩;have hj : j < 32 := by have := (List.getElem?_eq_some_iff.1 hu).1; rw [List.length_map, h3 _ (List.mem_of_getElem? hd)] at this; exact this
 have hfl : (idCells ds).length = ds.length * 32 := flat_len hlen;have hi : k * 32 + j < (idCells ds).length := by rw [hfl]; omega
 obtain ⟨x, hx, hxj⟩ := flat_at hlen (by omega) (List.getElem?_eq_getElem hi);have e1 : (k * 32 + j) / 32 = k := by omega
 have e2 : (k * 32 + j) % 32 = j := by omega
 rw [e1, hd] at hx;cases hx
 rw [e2, hu] at hxj;have := hc (k * 32 + j) u (by rw [List.getElem?_eq_getElem hi]; exact hxj.symm);rw [Nat.add_assoc]; exact this
def pathB (l : List (List UInt8)) (i : Nat) : List (List UInt8) :=
 if h : l.length < 2 ∨ l.length ≤ i then [] else
 if i < halfN l.length then pathB (l.take (halfN l.length)) i ++ [rootB (l.drop (halfN l.length))] else pathB (l.drop (halfN l.length)) (i - halfN l.length) ++ [rootB (l.take (halfN l.length))]
termination_by l.length
decreasing_by
 ·rw [List.length_take]; have := halfN_lt (n := l.length) (by omega); omega
 ·rw [List.length_drop]; have := halfN_pos l.length; omega
theorem pathB_none (l : List (List UInt8)) (i : Nat) (h : l.length < 2 ∨ l.length ≤ i) : pathB l i = [] := by rw [pathB, dif_pos h]
theorem pathB_left (l : List (List UInt8)) (i : Nat) (h : 2 ≤ l.length) (h2 : i < halfN l.length) : pathB l i = pathB (l.take (halfN l.length)) i ++ [rootB (l.drop (halfN l.length))] := by
 rw [pathB, dif_neg (by have := halfN_lt h; omega), if_pos h2]
theorem pathB_right (l : List (List UInt8)) (i : Nat) (h : 2 ≤ l.length) (hi : i < l.length) (h2 : ¬ i < halfN l.length) : pathB l i = pathB (l.drop (halfN l.length)) (i - halfN l.length) ++ [rootB (l.take (halfN l.length))] := by
 rw [pathB, dif_neg (by omega), if_neg h2]
theorem pathB_le : ∀ (N : Nat) (l : List (List UInt8)) (i : Nat), l.length ≤ N → (pathB l i).length ≤ N := by
 intro N
 induction N with
 | zero => intro l i h; rw [pathB_none l i (by omega)]; simp
 | succ N ih =>
  intro l i h;by_cases h0 : l.length < 2 ∨ l.length ≤ i
  ·rw [pathB_none l i h0]; simp
  ·have h2 : 2 ≤ l.length := by omega
   have hk1 := halfN_pos l.length;have hk2 := halfN_lt h2;by_cases h3 : i < halfN l.length
   ·rw [pathB_left l i h2 h3, List.length_append];have := ih (l.take (halfN l.length)) i (by rw [List.length_take]; omega);simp; omega
   ·rw [pathB_right l i h2 (by omega) h3, List.length_append];have := ih (l.drop (halfN l.length)) (i - halfN l.length) (by rw [List.length_drop]; omega);simp; omega
theorem pathB_32 : ∀ (N : Nat) (l : List (List UInt8)) (i : Nat), l.length ≤ N → ∀ d ∈ pathB l i, d.length = 32 := by
 intro N
 induction N with
 | zero => intro l i h; rw [pathB_none l i (by omega)]; intro d hd; cases hd
 | succ N ih =>
  intro l i h;by_cases h0 : l.length < 2 ∨ l.length ≤ i
  ·rw [pathB_none l i h0]; intro d hd; cases hd
  ·have h2 : 2 ≤ l.length := by omega
   have hk1 := halfN_pos l.length;have hk2 := halfN_lt h2;by_cases h3 : i < halfN l.length
   ·rw [pathB_left l i h2 h3];intro d hd;rcases List.mem_append.1 hd with hd | hd
    ·exact ih _ i (by rw [List.length_take]; omega) d hd
    ·simp only [List.mem_singleton] at hd; subst hd; exact rootB_len _
   ·rw [pathB_right l i h2 (by omega) h3];intro d hd;rcases List.mem_append.1 hd with hd | hd
    ·exact ih _ _ (by rw [List.length_drop]; omega) d hd
    ·simp only [List.mem_singleton] at hd; subst hd; exact rootB_len _
def pathI (l : List (List UInt8)) (i : Int) : List (List UInt8) := if i < 0 then [] else pathB l i.toNat
theorem pathI_nat (l : List (List UInt8)) (i : Nat) : pathI l (i : Int) = pathB l i := by unfold pathI; rw [if_neg (by omega)]; rfl
theorem pathI_le (l : List (List UInt8)) (i : Int) : (pathI l i).length ≤ l.length := by
 unfold pathI; split
 ·simp
 ·exact pathB_le _ _ _ (Nat.le_refl _)
theorem pathI_32 (l : List (List UInt8)) (i : Int) : ∀ d ∈ pathI l i, d.length = 32 := by
 unfold pathI; split
 ·intro d hd; cases hd
 ·exact pathB_32 _ _ _ (Nat.le_refl _)
def OwnI (w : World) (base : Nat) (A : Option Addr) (n c : Nat) (ds : List (List UInt8)) : Prop := w.ownsRow base 32 32 (.slice A n c) n (idCells ds)
theorem OwnI.grow {w w' : World} {base n c : Nat} {A : Option Addr} {ds : List (List UInt8)} (h : OwnI w base A n c ds) (k : Grow w w') : OwnI w' base A n c ds := own_below h k
attribute [local irreducible] pathI
theorem rpath_any : ∀ (N n c : Nat) (A : Option Addr) (ps : List (Value × List UInt8)) (i : Int) (ds : List (List UInt8)) (w : World), n ≤ N → pathI (ps.map Prod.snd) i = ds → Parts w w.heap.size A n ps → n ≤ c → n ≤ 1000000 → (∀ p ∈ ps, p.2.length ≤ 1000000) → Tabs w →
  Calls Tryz.prog 15 #[.slice A n c, .int .i64 i] w fun e w' => ∃ A' c', e = .returned (.slice A' ds.length c') ∧ OwnI w' w.heap.size A' ds.length c' ds ∧ Below w.heap.size w w' := by
 intro N
 induction N with
 | zero =>
  intro n c A ps i ds w hnN hds hp hc hn hl ht;obtain rfl : n = 0 := by omega
  obtain rfl : ds = [] := by rw [← hds]; exact List.eq_nil_of_length_eq_zero (by have := pathI_le (ps.map Prod.snd) i; rw [List.length_map, hp.len] at this; omega)
  clear ht hds hp hl;by_cases hi : i < 0
  ·have g1 : decide (i < 0) = true := by simpa using hi
   go_enter Tryz.func15, Tryz.ntmps15
   go_wp2_with fail;go_ret
   exact ⟨none, 0, rfl, World.ownsRow_nil _ _ _ _, Below.refl _ _⟩
  ·have g1 : decide (i < 0) = false := by simpa using hi
   have g2 : decide (0 ≤ i) = true := by simp; omega
   go_enter Tryz.func15, Tryz.ntmps15
   go_wp2_with fail;go_ret
   exact ⟨none, 0, rfl, World.ownsRow_nil _ _ _ _, Below.refl _ _⟩
 | succ N ih =>
  intro n c A ps i ds w hnN hds hp hc hn hl ht;by_cases hz : n ≤ N
  ·exact ih n c A ps i ds w hz hds hp hc hn hl ht
  have hnN1 : n = N + 1 := by omega
  have HN := kp hp.len;by_cases h0 : i < 0 ∨ (n : Int) ≤ i ∨ n < 2
  ·obtain rfl : ds = [] := by
    rw [← hds];unfold pathI;split
    ·rfl
    ·exact pathB_none _ _ (by rw [List.length_map, HN.o]; omega)
   clear ht hds hp hl ih;have hN1 : 1 ≤ n := by omega
   clear hnN1 hz hnN;by_cases hi : i < 0
   ·have g1 : decide (i < 0) = true := by simpa using hi
    go_enter Tryz.func15, Tryz.ntmps15
    go_wp2_with fail;go_ret
    exact ⟨none, 0, rfl, World.ownsRow_nil _ _ _ _, Below.refl _ _⟩
   ·have g1 : decide (i < 0) = false := by simpa using hi
    by_cases hi2 : (n : Int) ≤ i
    ·have g2 : decide ((n : Int) ≤ i) = true := by simpa using hi2
     go_enter Tryz.func15, Tryz.ntmps15
     go_wp2_with fail;go_ret
     exact ⟨none, 0, rfl, World.ownsRow_nil _ _ _ _, Below.refl _ _⟩
    ·have g2 : decide ((n : Int) ≤ i) = false := by simpa using hi2
     obtain rfl : n = 1 := by omega
     go_enter Tryz.func15, Tryz.ntmps15
     go_wp2_with fail;go_ret
     exact ⟨none, 0, rfl, World.ownsRow_nil _ _ _ _, Below.refl _ _⟩
  have h2 : 2 ≤ n := by omega
  obtain ⟨a, rfl⟩ : ∃ a : Nat, i = (a : Int) := ⟨i.toNat, by omega⟩;have han : a < n := by omega
  clear h0;have HT := kp ht; have HP := kp hp;have HB := kp (Below.refl w.heap.size w);have HIH := kp ih;obtain ⟨k, hk⟩ := xe (halfN n);have hk1 : 1 ≤ k := by rw [hk]; exact halfN_pos n
  have hk2 : k < n := by rw [hk]; exact halfN_lt h2
  have hkn : k ≤ n := Nat.le_of_lt hk2;have hkc : k ≤ c := by omega
  have HK := kp hk;have hkN : k ≤ N := by omega
  have hdN : n - k ≤ N := by omega
  have hN1 : N + 1 ≤ n := by omega
  have hn16 : n ≤ 16777216 := by omega
  have HLM := kq ((ps.map Prod.snd).length = n) (by rw [List.length_map]; exact HN.o);have HL1 := kq (∀ p ∈ ps.take k, p.2.length ≤ 1000000) (fun p hp => hl p (List.mem_of_mem_take hp));have HL2 := kq (∀ p ∈ ps.drop k, p.2.length ≤ 1000000) (fun p hp => hl p (List.mem_of_mem_drop hp));have g1 : decide ((a : Int) < 0) = false := by simp
  have g2 : decide ((n : Int) ≤ (a : Int)) = false := by simp; omega
  have z2 : decide ((n : Int) < 2) = false := by simp; omega
  rw [pathI_nat] at hds;clear ht hp hl ih hnN1 hz hnN;by_cases hak : a < k
  ·have g3 : decide ((a : Int) < (k : Int)) = true := by simp; omega
   obtain ⟨ds1, hds1⟩ : ∃ d, pathI ((ps.take k).map Prod.snd) (a : Int) = d := ⟨_, rfl⟩;obtain ⟨xs2, hd2⟩ := dig_root ((ps.drop k).map Prod.snd);have HD2 := kp hd2; have HDS1 := kp hds1;have hlen1 : ds1.length ≤ k := by have := pathI_le ((ps.take k).map Prod.snd) a; rw [hds1, List.length_map, List.length_take] at this; omega
   have HDS := kp (show ds1 ++ [rootB ((ps.drop k).map Prod.snd)] = ds by
    rw [pathB_left _ _ (by rw [HLM.o]; exact h2) (by rw [HLM.o, ← hk]; exact hak), HLM.o, ← hk, ← List.map_take, ← List.map_drop, ← pathI_nat, hds1] at hds
    exact hds)
   clear hds hds1 hd2 hk
   go_enter Tryz.func15, Tryz.ntmps15
   go_wp2_with fail;refine (half_any n _ h2 hn16).mono ?_;rintro e w1 ⟨rfl, hw1⟩;rw [hw1, ← HK.o];clear hw1;clear w1;try go_wp2_with fail
   repeat' (first | (with_reducible refine wpp (id := 5) Grow [0,0,0,0,3,0,0,0,3,3,3,0] (.get 0 (.get 1 (.get 2 (.get 3 (.get 5 (.get 6 (.get 7 (.act 4 (.act 8 (.act 9 (.act 10 (.get 11 .done)))))))))))) Grow.refl Grow.trans ?_) | go_values | go_skip | go_guarded | go_step | go_upon | go_back)
   intro w_ hd_;have y_ := hd_.grow;replace HB := kp (HB.o.grow' y_);replace HT := kp (HT.o.grow y_);replace HP := kp (HP.o.grow y_);clear y_ hd_;repeat ((first | refine plc (fun K hK => ?_) | refine pls (fun K hK => ?_) | refine psa (fun K hK => ?_)); go_simp; refine hK _ _ ?_; clear hK K)
   have HP1 := kp (HP.o.to1 hkn);have HP2 := kp (HP.o.from1 hkn hc);generalize (if c = k then A else Option.map (fun x => x.add k) A) = A2 at HP2 ⊢;have HLE := kp HB.o.size;refine pl_act rfl (by first | exact wanted_none rfl | (go_simp; done) | rfl) (fun K hK => ?_);go_wp2_with fail;refine (HIH.o k c A (ps.take k) a ds1 _ (by omega) HDS1.o HP1.o hkc (by omega) HL1.o HT.o).mono ?_;rintro e w_ ⟨A3, c3, rfl, ho_, y_⟩;go_wp2_with fail;refine hK _ _ (fun _ => y_) ?_;clear hK K;replace HB := kp (HB.o.grow' y_);replace HT := kp (HT.o.grow y_);replace HP2 := kp (HP2.o.grow y_);clear y_;have HO := kq (OwnI w_ w.heap.size A3 ds1.length c3 ds1) (own_base ho_ HLE.o);clear ho_ HLE;refine pl_act rfl (by first | exact wanted_none rfl | (go_simp; done) | rfl) (fun K hK => ?_);go_wp2_with fail;refine (rroot_any (n - k) (n - k) (c - k) A2 (ps.drop k) xs2 _ (Nat.le_refl _) HD2.o HP2.o (by omega) (by omega) HL2.o HT.o).mono ?_;rintro e w_ ⟨rfl, y_⟩;go_wp2_with fail;refine hK _ _ (fun _ => y_) ?_;clear hK K;replace HB := kp (HB.o.grow' y_);replace HO := kp (HO.o.grow y_);clear y_;have hysl := HD2.o.len;refine pl_act rfl (by first | exact wanted_none rfl | (go_simp; done) | rfl) (fun K hK => ?_);go_wp2_with fail;generalize hw_ : World.alloc w_ _ = v_;obtain ⟨hX_, y_, hs_⟩ := alloc_eq hw_;generalize hg_ : w_.heap.size = g2 at hX_ hs_ ⊢;refine hK _ _ (fun _ => y_) ?_;have HX2 := kp hX_;clear hK K hw_ hX_;replace HB := kp (HB.o.grow' y_);replace HO := kp (HO.o.grow y_);clear y_ hg_ hs_;clear w_;rename World => w_;clear hysl;have HSX := kq (Sl w_ w_.heap.size 32 (some ⟨g2, 0, none⟩) 1 xs2) ((show Blk w_ g2 32 xs2 by have h := HX2.o; rw [fold_set _ xs2 (by rw [HD2.o.len]; rfl)] at h; exact h).sl (by rw [HD2.o.len]));clear HX2;refine pac (fun K hK => ?_);show wpList _ _ _ [⟨some _, .call _, _, _, _, _⟩] _ _
   go_wp2_with (at_builtin; refine wpl_apps rfl rfl el_id HO.o rfl HSX.o rfl HD2.o.one (by omega) (by omega) HB.o.size ?_);intro A4 c4 w4 ho hg hA;have HB4 := kp (app_below HB.o HO.o hg);have HO4 := kq (OwnI w4 w.heap.size A4 (ds1.length + 1) c4 (ds1 ++ [rootB ((ps.drop k).map Prod.snd)])) (by unfold OwnI; rw [idCells_snoc, ← HD2.o.1]; exact ho);clear ho hg hA HSX HO HB;go_wp2_with fail;refine hK _ _ (fun h => by cases h) ?_;clear hK K;repeat ((first | refine plc (fun K hK => ?_) | refine pls (fun K hK => ?_) | refine psa (fun K hK => ?_)); go_simp; refine hK _ _ ?_; clear hK K)
   refine pl_done ?_;go_wp2_with fail;go_ret
   have HE := HDS.o;refine ⟨A4, c4, ?_, ?_, HB4.o⟩
   ·rw [← HE, List.length_append]; rfl
   ·rw [← HE, List.length_append]; exact HO4.o
  ·have g3 : decide ((a : Int) < (k : Int)) = false := by simp; omega
   obtain ⟨ds1, hds1⟩ : ∃ d, pathI ((ps.drop k).map Prod.snd) ((a : Int) - (k : Int)) = d := ⟨_, rfl⟩;obtain ⟨xs2, hd2⟩ := dig_root ((ps.take k).map Prod.snd);have HD2 := kp hd2; have HDS1 := kp hds1;have hlen1 : ds1.length ≤ n - k := by have := pathI_le ((ps.drop k).map Prod.snd) ((a : Int) - (k : Int)); rw [hds1, List.length_map, List.length_drop, HN.o] at this; omega
   have HDS := kp (show ds1 ++ [rootB ((ps.take k).map Prod.snd)] = ds by
    rw [show (a : Int) - (k : Int) = ((a - k : Nat) : Int) by omega, pathI_nat] at hds1;rw [pathB_right _ _ (by rw [HLM.o]; exact h2) (by rw [HLM.o]; exact han) (by rw [HLM.o, ← hk]; exact hak), HLM.o, ← hk, ← List.map_take, ← List.map_drop, hds1] at hds
    exact hds)
   clear hds hds1 hd2 hk
   go_enter Tryz.func15, Tryz.ntmps15
   go_wp2_with fail;refine (half_any n _ h2 hn16).mono ?_;rintro e w1 ⟨rfl, hw1⟩;rw [hw1, ← HK.o];clear hw1;clear w1;try go_wp2_with fail
   repeat' (first | (with_reducible refine wpp (id := 6) Grow [0,0,0,0,0,0,3,0,0,0,3,3,3,0] (.get 0 (.get 1 (.get 2 (.get 3 (.get 4 (.get 5 (.get 7 (.get 8 (.get 9 (.act 6 (.act 10 (.act 11 (.act 12 (.get 13 .done)))))))))))))) Grow.refl Grow.trans ?_) | go_values | go_skip | go_guarded | go_step | go_upon | go_back)
   intro w_ hd_;have y_ := hd_.grow;replace HB := kp (HB.o.grow' y_);replace HT := kp (HT.o.grow y_);replace HP := kp (HP.o.grow y_);clear y_ hd_;repeat ((first | refine plc (fun K hK => ?_) | refine pls (fun K hK => ?_) | refine psa (fun K hK => ?_)); go_simp; refine hK _ _ ?_; clear hK K)
   have HP1 := kp (HP.o.to1 hkn);have HP2 := kp (HP.o.from1 hkn hc);generalize (if c = k then A else Option.map (fun x => x.add k) A) = A2 at HP2 ⊢;have HLE := kp HB.o.size;refine pl_act rfl (by first | exact wanted_none rfl | (go_simp; done) | rfl) (fun K hK => ?_);go_wp2_with fail;refine (HIH.o (n - k) (c - k) A2 (ps.drop k) ((a : Int) - (k : Int)) ds1 _ (by omega) HDS1.o HP2.o (by omega) (by omega) HL2.o HT.o).mono ?_;rintro e w_ ⟨A3, c3, rfl, ho_, y_⟩;go_wp2_with fail;refine hK _ _ (fun _ => y_) ?_;clear hK K;replace HB := kp (HB.o.grow' y_);replace HT := kp (HT.o.grow y_);replace HP1 := kp (HP1.o.grow y_);clear y_;have HO := kq (OwnI w_ w.heap.size A3 ds1.length c3 ds1) (own_base ho_ HLE.o);clear ho_ HLE;refine pl_act rfl (by first | exact wanted_none rfl | (go_simp; done) | rfl) (fun K hK => ?_);go_wp2_with fail;refine (rroot_any k k c A (ps.take k) xs2 _ (Nat.le_refl _) HD2.o HP1.o hkc (by omega) HL1.o HT.o).mono ?_;rintro e w_ ⟨rfl, y_⟩;go_wp2_with fail;refine hK _ _ (fun _ => y_) ?_;clear hK K;replace HB := kp (HB.o.grow' y_);replace HO := kp (HO.o.grow y_);clear y_;have hysl := HD2.o.len;refine pl_act rfl (by first | exact wanted_none rfl | (go_simp; done) | rfl) (fun K hK => ?_);go_wp2_with fail;generalize hw_ : World.alloc w_ _ = v_;obtain ⟨hX_, y_, hs_⟩ := alloc_eq hw_;generalize hg_ : w_.heap.size = g2 at hX_ hs_ ⊢;refine hK _ _ (fun _ => y_) ?_;have HX2 := kp hX_;clear hK K hw_ hX_;replace HB := kp (HB.o.grow' y_);replace HO := kp (HO.o.grow y_);clear y_ hg_ hs_;clear w_;rename World => w_;clear hysl;have HSX := kq (Sl w_ w_.heap.size 32 (some ⟨g2, 0, none⟩) 1 xs2) ((show Blk w_ g2 32 xs2 by have h := HX2.o; rw [fold_set _ xs2 (by rw [HD2.o.len]; rfl)] at h; exact h).sl (by rw [HD2.o.len]));clear HX2;refine pac (fun K hK => ?_);show wpList _ _ _ [⟨some _, .call _, _, _, _, _⟩] _ _
   go_wp2_with (at_builtin; refine wpl_apps rfl rfl el_id HO.o rfl HSX.o rfl HD2.o.one (by omega) (by omega) HB.o.size ?_);intro A4 c4 w4 ho hg hA;have HB4 := kp (app_below HB.o HO.o hg);have HO4 := kq (OwnI w4 w.heap.size A4 (ds1.length + 1) c4 (ds1 ++ [rootB ((ps.take k).map Prod.snd)])) (by unfold OwnI; rw [idCells_snoc, ← HD2.o.1]; exact ho);clear ho hg hA HSX HO HB;go_wp2_with fail;refine hK _ _ (fun h => by cases h) ?_;clear hK K;repeat ((first | refine plc (fun K hK => ?_) | refine pls (fun K hK => ?_) | refine psa (fun K hK => ?_)); go_simp; refine hK _ _ ?_; clear hK K)
   refine pl_done ?_;go_wp2_with fail;go_ret
   have HE := HDS.o;refine ⟨A4, c4, ?_, ?_, HB4.o⟩
   ·rw [← HE, List.length_append]; rfl
   ·rw [← HE, List.length_append]; exact HO4.o
end Go.Proofs.YtiijepimkgaccaaGreat

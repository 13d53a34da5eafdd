/- The contract of cert.Read's closure. -/
import Derived.Test.YtphmefhnffoafaaDoorCertFormsT28
import Derived.Test.YtphmefhnffoafaaDoorCertFormsT29
import Derived.Test.YtphmefhnffoafaaDoorCertFormsT30
import Derived.Deep.RegionWith
set_option linter.unusedSimpArgs false
/- The contract of cert.Read's closure. -/
namespace Go.Proofs.YtphmefhnffoafaaDoor
open Go.RowKit Go.Shelf
set_option linter.unusedVariables false
theorem sl_keepK {K : Nat → Prop} {w w' : World} {A : Option Addr} {n : Nat} {xs : List Value} (h : Sl w w.heap.size 1 A n xs) (hA : ∀ k, A.map Addr.block = some k → K k) (hk : Kept K w w') : Sl w' w'.heap.size 1 A n xs := by
  refine ⟨h.1, fun hn => ?_⟩
  obtain ⟨b, off, e, hb, hc⟩ := h.2 hn
  exact ⟨b, off, e, Nat.lt_of_lt_of_le hb hk.size, fun j u hu => (World.cell?_of_block (a := ⟨b, off + j, none⟩) (hk.block b (hA b (by rw [e]; rfl)))).trans (hc j u hu)⟩
theorem ids_keepK {K : Nat → Prop} {w w' : World} {A : Option Addr} {n c : Nat} {ds : List (List UInt8)} (h : Ids w A n c ds) (hA : ∀ k, A.map Addr.block = some k → K k) (hk : Kept K w w') : Ids w' A n c ds := by
  obtain ⟨⟨h0, h1⟩, h2⟩ := h
  refine ⟨⟨h0, fun hn => ?_⟩, h2⟩
  obtain ⟨b, off, e, hb, hc⟩ := h1 hn
  exact ⟨b, off, e, Nat.lt_of_lt_of_le hb hk.size, fun j u hu => (World.cell?_of_block (a := ⟨b, off + j, none⟩) (hk.block b (hA b (by rw [e]; rfl)))).trans (hc j u hu)⟩
def K4 (Z g g4 g5 g6 : Nat) : Nat → Prop := fun k => k < Z ∧ k ≠ g ∧ k ≠ g4 ∧ k ≠ g5 ∧ k ≠ g6
def K3 (Z g g4 g6 : Nat) : Nat → Prop := fun k => k < Z ∧ k ≠ g ∧ k ≠ g4 ∧ k ≠ g6
def K2 (Z g g4 : Nat) : Nat → Prop := fun k => k < Z ∧ k ≠ g ∧ k ≠ g4
/-- What was read lies so. -/
def CGot (w : World) (lo g4 g5 g6 : Nat) (r : Raw) : Prop :=
  ∃ A n c A5 c5 A6 c6, Blk w g4 74 (certV (.slice A n c) ⟨noEnt, r.path, noHdr, r.tag⟩) ∧ Ids w A n c r.path ∧ (∀ k, A.map Addr.block = some k → lo ≤ k) ∧
    Blk w g5 26 [.slice A5 r.eb.length c5] ∧ Sl w w.heap.size 1 A5 r.eb.length (r.eb.map B) ∧ (∀ k, A5.map Addr.block = some k → lo ≤ k) ∧
    Blk w g6 26 [.slice A6 r.hb.length c6] ∧ Sl w w.heap.size 1 A6 r.hb.length (r.hb.map B) ∧ (∀ k, A6.map Addr.block = some k → lo ≤ k)
/-- The closure's end. -/
def CEnd (w w1 : World) (Bd g g4 g5 g6 : Nat) (l : List UInt8) (e : Ending) (w2 : World) : Prop :=
  (Below g4 w w2 ∧ (∀ r t, lookC l = .ok (r, t) → CGot w2 (w.heap.size + 1) g4 g5 g6 r)) ∧ w1.heap.size ≤ w2.heap.size ∧ w2.heap[w.heap.size]? = w1.heap[w.heap.size]? ∧
      ((∃ x, restOf (lookC l) = .error x ∧ e = .panicked (brk x)) ∨ (∃ l', restOf (lookC l) = .ok l' ∧ e = .returned (.tuple #[]) ∧ EyeAt w2 (w.heap.size + 1) Bd g l'))
def CPos (w w1 : World) (g g4 g5 g6 : Nat) : Prop := g4 < g5 ∧ g5 < g6 ∧ g6 < w.heap.size ∧ w.heap.size < g ∧ w.heap.size < w1.heap.size ∧ g < w1.heap.size ∧ Grow w w1
theorem cend_low {w w1 w2 : World} {g g4 g5 g6 : Nat} (hp : CPos w w1 g g4 g5 g6) (hk : Kept (K4 w1.heap.size g g4 g5 g6) w1 w2) : Below g4 w w2 ∧ w1.heap.size ≤ w2.heap.size ∧ w2.heap[w.heap.size]? = w1.heap[w.heap.size]? := by
  obtain ⟨h1, h2, h3, h4, h5, h6, h7⟩ := hp
  refine ⟨?_, hk.size, hk.block _ ⟨h5, by omega, by omega, by omega, by omega⟩⟩
  have h8 : Below g4 w1 w2 := hk.below (fun j hj => ⟨by omega, by omega, by omega, by omega, by omega⟩)
  exact (Below.mono h7 (by omega)).trans h8
theorem cend_err {w w1 w2 : World} {Bd g g4 g5 g6 x : Nat} {l : List UInt8} (hp : CPos w w1 g g4 g5 g6) (hk : Kept (K4 w1.heap.size g g4 g5 g6) w1 w2) (hx : lookC l = .error x) : CEnd w w1 Bd g g4 g5 g6 l (.panicked (brk x)) w2 := by
  obtain ⟨h1, h2, h3⟩ := cend_low hp hk
  exact ⟨⟨h1, fun r t h => by rw [hx] at h; cases h⟩, h2, h3, .inl ⟨x, by rw [hx]; rfl, rfl⟩⟩
theorem kept_eye {Z g g4 g5 g6 : Nat} {w1 w w' : World} (hk : Kept (K4 Z g g4 g5 g6) w1 w) (hz : Z ≤ w.heap.size) {q : Nat} (hg : w.grownBy w' (some q)) (hq : q = g ∨ q = g4 ∨ q = g5 ∨ q = g6) : Kept (K4 Z g g4 g5 g6) w1 w' :=
  hk.trans (Kept.of_grown hg (fun k hK => ⟨by have := hK.1; omega, fun e => by injection e with e; obtain ⟨_, a, b, c, d⟩ := hK; rcases hq with h | h | h | h <;> omega⟩))
theorem cert_setv {u v : Value} : (certV v noCer).set 37 u = certV u noCer := rfl
set_option maxRecDepth 100000 in
set_option maxHeartbeats 4000000 in
theorem cread1_any {Bd g g4 g5 g6 : Nat} {l : List UInt8} (w w1 : World) (hp : CPos w w1 g g4 g5 g6) (hb4 : Blk w g4 74 (certV (.slice none 0 0) noCer)) (hb5 : Blk w g5 26 [.slice none 0 0]) (hb6 : Blk w g6 26 [.slice none 0 0]) (he : EyeAt w1 (w.heap.size + 1) Bd g l) :
    Calls Tryd.prog 103 (#[.pointer (some ⟨g, 0, none⟩)] ++ #[.pointer (some ⟨g5, 0, none⟩), .pointer (some ⟨g4, 0, none⟩), .pointer (some ⟨g6, 0, none⟩)]) w1 fun e w2 => CEnd w w1 Bd g g4 g5 g6 l e w2 := by
  have HPOS := Lib.hid hp
  have HE := Lib.hid he
  have HB4 := Lib.hid (hb4.grow hp.2.2.2.2.2.2); have HB5 := Lib.hid (hb5.grow hp.2.2.2.2.2.2); have HB6 := Lib.hid (hb6.grow hp.2.2.2.2.2.2)
  obtain ⟨Z, hZ⟩ : ∃ z, z = w1.heap.size := ⟨_, rfl⟩
  have HZ := Lib.hid hZ
  have HK := Lib.hid (show Kept (K4 w1.heap.size g g4 g5 g6) w1 w1 from Kept.refl _ _)
  have HNUM := Lib.hid (show g4 < g5 ∧ g5 < g6 ∧ g6 < w.heap.size ∧ w.heap.size < g ∧ w.heap.size < Z ∧ g < Z by obtain ⟨a, b, c, d, e, f, _⟩ := hp; rw [hZ]; exact ⟨a, b, c, d, e, f⟩)
  rw [← hZ] at HK
  have HBD := Lib.hid (show Bd ≤ Z by have := he.bd; rw [hZ]; exact this.2)
  have HERR := Lib.hid (fun (x : Nat) (w2 : World) (hk : Kept (K4 Z g g4 g5 g6) w1 w2) (hx : lookC l = .error x) => cend_err (Bd := Bd) hp (by rw [← hZ]; exact hk) hx)
  obtain ⟨zc, hzc⟩ : ∃ v, v = certV (.slice none 0 0) noCer := ⟨_, rfl⟩
  have HZC := Lib.hid hzc
  rw [← hzc] at HB4
  obtain ⟨res, hres⟩ : ∃ r, r = lookC l := ⟨_, rfl⟩
  have HRES := Lib.hid hres
  unfold lookC at hres
  have HR := Lib.hid hres
  clear hp hb4 hb5 hb6 he hZ hzc hres
  show Calls Tryd.prog 103 #[.pointer (some ⟨g, 0, none⟩), .pointer (some ⟨g5, 0, none⟩), .pointer (some ⟨g4, 0, none⟩), .pointer (some ⟨g6, 0, none⟩)] w1 _
  go_enter Tryd.func103, Tryd.ntmps103
  go_wp2_with fail
  refine (etext_any (most := 100) _ HE.out (by omega)).mono ?_
  rintro e w2_ ⟨hg_, ⟨x, hx_, rfl⟩ | ⟨eb, l1, A5, c5, hx_, rfl, ho_, hc_, hE_⟩⟩
  · have HK_ := Lib.hid (kept_eye HK.out (by rw [HZ.out]; exact HK.out.size) hg_ (.inl rfl))
    have HX := Lib.hid (show lookC l = .error x by rw [← HRES.out, HR.out, hx_])
    clear hg_ hx_
    go_wp2_with fail
    exact ⟨by first | trivial | rfl, HERR.out x _ HK_.out HX.out⟩
  have HR_ := HR.out
  rw [hx_] at HR_
  simp only at HR_
  replace HR := Lib.hid HR_
  clear HR_ hx_
  have HK_ := Lib.hid (kept_eye HK.out (by rw [HZ.out]; exact HK.out.size) hg_ (.inl rfl))
  have HB4_ := Lib.hid (HB4.out.grown hg_ (fun e => by injection e with e; have := HNUM.out; omega)); have HB5_ := Lib.hid (HB5.out.grown hg_ (fun e => by injection e with e; have := HNUM.out; omega)); have HB6_ := Lib.hid (HB6.out.grown hg_ (fun e => by injection e with e; have := HNUM.out; omega))
  have HO5 := Lib.hid (show OwnAt w2_ Z A5 eb.length c5 (eb.map B) by rw [HZ.out]; exact ho_)
  have HC5 := Lib.hid hc_
  have HE_ := Lib.hid hE_
  clear hg_ ho_ hc_ hE_ HK HB4 HB5 HB6 HE
  have HK := HK_; have HB4 := HB4_; have HB5 := HB5_; have HB6 := HB6_; have HE := HE_
  clear HK_ HB4_ HB5_ HB6_ HE_
  go_wp2_with (first | (refine wpl_store1 (o := ⟨none, .store _ _ _, _, _, _, _⟩) rfl rfl HB5.out rfl rfl (by kernel_rfl) rfl rfl (by simp) ?_))
  intro w3_ hb2_ hg2_ hsz2_
  have HB5_ := Lib.hid (show Blk w3_ g5 26 [.slice A5 eb.length c5] from hb2_)
  have HK_ := Lib.hid (kept_eye HK.out (by have := HK.out.size; rw [HZ.out]; exact this) hg2_ (.inr (.inr (.inl rfl))))
  have HB4_ := Lib.hid (HB4.out.grown hg2_ (fun e => by injection e with e; have := HNUM.out; omega)); have HB6_ := Lib.hid (HB6.out.grown hg2_ (fun e => by injection e with e; have := HNUM.out; omega))
  have HE_ := Lib.hid (HE.out.off hg2_ (.inl (by have := HNUM.out; omega)))
  have HO5_ := Lib.hid (show OwnAt w3_ Z A5 eb.length c5 (eb.map B) from own_kept HO5.out hg2_ (fun q hq e => by have h1 := own_from HO5.out q (by rw [hq]; rfl); injection e with e; have := HNUM.out; omega))
  clear hb2_ hg2_ hsz2_ HK HB4 HB5 HB6 HE HO5
  have HK := HK_; have HB4 := HB4_; have HB5 := HB5_; have HB6 := HB6_; have HE := HE_; have HO5 := HO5_
  clear HK_ HB4_ HB5_ HB6_ HE_ HO5_
  try clear w2_
  go_wp2_with fail
  refine (enum_any (most := 32) _ HE.out).mono ?_
  rintro e w2_ hr_
  obtain ⟨hg_, ⟨x, hx_, rfl⟩ | ⟨n, l2, hx_, rfl, hE_⟩⟩ := hr_.get
  · have HK_ := Lib.hid (kept_eye HK.out (by have := HK.out.size; rw [HZ.out]; exact this) hg_ (.inl rfl))
    have HX := Lib.hid (show lookC l = .error x by rw [← HRES.out, HR.out, hx_])
    clear hg_ hx_ hr_
    go_wp2_with fail
    exact ⟨by first | trivial | rfl, HERR.out x _ HK_.out HX.out⟩
  have HR_ := HR.out
  rw [hx_] at HR_
  simp only at HR_
  replace HR := Lib.hid HR_
  have HN32 := Lib.hid (numR_le hx_).1
  clear HR_ hx_ hr_
  have HK_ := Lib.hid (kept_eye HK.out (by have := HK.out.size; rw [HZ.out]; exact this) hg_ (.inl rfl))
  have HB4_ := Lib.hid (HB4.out.grown hg_ (fun e => by injection e with e; have := HNUM.out; omega)); have HB5_ := Lib.hid (HB5.out.grown hg_ (fun e => by injection e with e; have := HNUM.out; omega)); have HB6_ := Lib.hid (HB6.out.grown hg_ (fun e => by injection e with e; have := HNUM.out; omega))
  have HO5_ := Lib.hid (show OwnAt w2_ Z A5 eb.length c5 (eb.map B) from own_kept HO5.out hg_ (fun q hq e => by have h1 := own_from HO5.out q (by rw [hq]; rfl); injection e with e; have := HNUM.out; omega))
  have HE_ := Lib.hid hE_
  clear hg_ hE_ HK HB4 HB5 HB6 HE HO5
  have HKz := HK_; have HB4 := HB4_; have HB5z := HB5_; have HB6z := HB6_; have HE := HE_
  have HS5z := Lib.hid (Sl.of_own HO5_.out)
  have HA5z := Lib.hid (show ∀ k, A5.map Addr.block = some k → Z ≤ k ∧ k < w2_.heap.size from fun k hk => ⟨own_from HO5_.out k hk, own_lt HO5_.out k hk⟩)
  clear HK_ HB4_ HB5_ HB6_ HE_ HO5_
  try clear w3_
  rename World => wz
  obtain ⟨Zp, hZp⟩ : ∃ z, z = wz.heap.size := ⟨_, rfl⟩
  have HZP := Lib.hid hZp
  have HZZ := Lib.hid (show Z ≤ Zp by have := HKz.out.size; rw [hZp, HZ.out]; exact this)
  rw [← hZp] at HA5z
  clear hZp
  have HK2 := Lib.hid (show Kept (K2 Zp g g4) wz wz from Kept.refl _ _)
  have HKJ := Lib.hid (show ∀ w', Kept (K2 Zp g g4) wz w' → Kept (K4 Z g g4 g5 g6) w1 w' from fun w' h => HKz.out.trans (h.mono (fun k hk => ⟨by have := hk.1; have := HZZ.out; omega, hk.2.1, hk.2.2.1⟩)))
  go_wp2_with fail
  go_loopw [9] (fun iv wr => ∃ k : Nat, ∃ A c ds l', k ≤ n ∧ iv = .int .u64 (k : Int) ∧ Hid (idsR k l2 = .ok (ds, l')) ∧ Hid (EyeAt wr (w.heap.size + 1) Bd g l') ∧ Hid (Blk wr g4 74 (certV (.slice A k c) noCer)) ∧ Hid (OwnI wr Zp A k c ds) ∧ Hid (Kept (K2 Zp g g4) wz wr)) (fun iv _ => n - (intOf iv).toNat)
  case atStart => exact ⟨0, none, 0, [], l2, by omega, rfl, Lib.hid rfl, HE, by rw [← HZC.out]; exact HB4, Lib.hid (World.ownsRow_nil _ _ _ _), HK2⟩
  case round =>
    obtain ⟨k, A, c, ds, l', hk, rfl, hI, hE, hB, hO, hK⟩ := hrel
    clear HE HB4 HK2
    have HI := Lib.hid hI.out; have HE := Lib.hid hE.out; have HB4 := Lib.hid hB.out; have HO := Lib.hid hO.out; have HK2 := Lib.hid hK.out
    clear hI hE hB hO hK
    rename World => w_
    have HZW := Lib.hid (show Zp ≤ w_.heap.size by have := HK2.out.size; rw [HZP.out]; exact this)
    by_cases hlt : k < n
    · have HB := Lib.hid (Below.refl w_.heap.size w_)
      have q1 : IntKind.u64.wrap ((k : Int) + 1) = (k : Int) + 1 := by have := HN32.out; rw [IntKind.wrap_u64]; omega
      cases htk : takeR 32 l' with
      | error x =>
        have HEC := Lib.hid (show ∀ w', Drawn w_ w' → Calls Tryd.prog 106 #[.pointer (some ⟨g, 0, none⟩)] w' (fun e w2_ => e = .panicked (brk x) ∧ CEnd w w1 Bd g g4 g5 g6 l (.panicked (brk x)) w2_) from fun w' hd =>
          (eid_any _ (HE.out.grow hd.grow)).mono fun e w2_ hr => by
            obtain ⟨hg_, ⟨y, hy, rfl⟩ | ⟨d, t, hy, _⟩⟩ := hr.get
            · rw [htk] at hy
              injection hy with hy
              subst hy
              have hk2 : Kept (K2 Zp g g4) wz w' := HK2.out.trans (Kept.of_grow hd.grow (fun j hj => by have := hj.1; have := HZW.out; omega))
              have h1 : idsR (k + 1) l2 = .error x := by rw [idsR, HI.out]; simp only; rw [htk]
              have h2 := idsR_err h1 (n - (k + 1))
              rw [show k + 1 + (n - (k + 1)) = n by omega] at h2
              exact ⟨rfl, HERR.out x _ (kept_eye (HKJ.out _ hk2) (by have := HZW.out; have := HZZ.out; have := hd.grow.size; omega) hg_ (.inl rfl)) (by rw [← HRES.out, HR.out, h2])⟩
            · rw [htk] at hy; cases hy)
        have cp := HB4.out.at_ (cert_v (v := .slice A k c) noCer_ok)
        clear htk q1
        go_upto_region 3 with fail
        refine wp_region_any (by kernel_rfl) ?_
        change wpAny _ _ _ _ _ _ _ (World.drew _)
        refine wpAny_take (i := 0) (v := ?_) rfl (by kernel_rfl) (by kernel_rfl) (by kernel_rfl) (fun _ _ _ h => h) (Or.inl ⟨by rfl, ?_⟩) ?_
        rotate_left
        · intro w
          go_simp
          try with_reducible rfl
        refine wpAny_take (i := 2) (v := ?_) rfl (by kernel_rfl) (by kernel_rfl) (by kernel_rfl) (fun _ _ _ h => h) (Or.inl ⟨by rfl, ?_⟩) ?_
        rotate_left
        · intro w
          go_simp
          try with_reducible rfl
        refine wpAny_ready (rs := [1, 3]) (by kernel_rfl) (by simp) ?_
        refine AllReady.cons rfl (fun K hK => ?_) (AllReady.cons rfl (fun K hK => ?_) AllReady.nil)
        · go_simp
          refine hK _ _ ?_
          clear hK K
          refine wpAny_ready (rs := [3]) (by kernel_rfl) (by simp) ?_
          refine AllReady.cons rfl (fun K hK => ?_) AllReady.nil
          go_simp
          go_wp2_with (go_at_call 106; refine (HEC.out _ ?_).mono ?_; exact ⟨_, rfl⟩; rintro e w3_ ⟨rfl, hend_⟩; (have HEND := Lib.hid hend_); clear hend_)
          go_wp2_with fail
          exact ⟨by first | trivial | rfl, HEND.out⟩
        · skip
          go_simp
          go_wp2_with (go_at_call 106; refine (HEC.out _ ?_).mono ?_; exact ⟨_, rfl⟩; rintro e w3_ ⟨rfl, hend_⟩; (have HEND := Lib.hid hend_); clear hend_)
          go_wp2_with fail
          exact ⟨by first | trivial | rfl, HEND.out⟩
      | ok pr =>
      obtain ⟨d0, l0⟩ := pr
      have HTK := Lib.hid htk
      clear htk
      try go_wp2_with fail
      repeat' (first | (with_reducible refine wp_plan (id := 3) (fun a b => a.grownBy b (some g)) [0,1,0,4,4,3,0,3] (.get 0 (.get 1 (.get 2 (.act 3 (.act 4 (.act 5 (.get 6 (.act 7 .done)))))))) (by kernel_rfl) (by kernel_rfl) (fun a => grownBy_refl a _) (fun _ _ _ h k => grownBy_trans h k) ?_) | go_values | go_skip | go_guarded | go_step | go_upon | go_back)
      intro w_ hd_
      have hb_ := hd_.grow
      have HB_ := Lib.hid (HB.out.grow' hb_)
      clear HB
      have HB := HB_
      clear HB_
      have HE_ := Lib.hid (HE.out.grow hb_)
      clear HE
      have HE := HE_
      clear HE_
      have HB4_ := Lib.hid (HB4.out.grow hb_)
      clear HB4
      have HB4 := HB4_
      clear HB4_
      have HO_ := Lib.hid (HO.out.grow hb_)
      clear HO
      have HO := HO_
      clear HO_
      clear hb_ hd_
      have HK2_ := Lib.hid (HK2.out.trans (Kept.of_grow HB.out (fun j hj => by have := hj.1; have := HZW.out; omega)))
      have HZW_ := Lib.hid (Nat.le_trans HZW.out HB.out.size)
      clear HK2 HZW HB
      have HK2 := HK2_; have HZW := HZW_
      clear HK2_ HZW_
      repeat (first | (refine pl_calm rfl rfl (by first | exact wanted_none rfl | (go_simp; done) | rfl) (fun w_ => by first | (go_simp; rfl) | (go_simp; done) | rfl) (fun K hK => ?_); go_simp; refine hK _ _ ?_; clear hK K) | (refine pl_skip rfl (by first | (go_simp; done) | rfl) (fun K hK => ?_); go_simp; refine hK _ _ ?_; clear hK K) | (refine pl_skipa rfl (by first | (go_simp; done) | rfl) (fun K hK => ?_); go_simp; refine hK _ _ ?_; clear hK K))
      refine pl_read rfl rfl (by exact wanted_none rfl) (v := .slice A k c) (fun w3_ hf_ => by have c9 := (HB4.out.grown hf_ (fun e => by injection e with e; have := HNUM.out; omega)).at_ (cert_v (v := .slice A k c) noCer_ok); first | (go_simp; rfl) | (go_simp; done)) (fun K hK => ?_)
      go_simp
      refine hK _ _ ?_
      clear hK K
      repeat (first | (refine pl_calm rfl rfl (by first | exact wanted_none rfl | (go_simp; done) | rfl) (fun w_ => by first | (go_simp; rfl) | (go_simp; done) | rfl) (fun K hK => ?_); go_simp; refine hK _ _ ?_; clear hK K) | (refine pl_skip rfl (by first | (go_simp; done) | rfl) (fun K hK => ?_); go_simp; refine hK _ _ ?_; clear hK K) | (refine pl_skipa rfl (by first | (go_simp; done) | rfl) (fun K hK => ?_); go_simp; refine hK _ _ ?_; clear hK K))
      refine pl_act rfl (by exact wanted_none rfl) (fun K hK => ?_)
      go_wp2_with fail
      refine (eid_any _ HE.out).mono ?_
      rintro e w2_ hr_
      obtain ⟨hg_, ⟨x, hx_, rfl⟩ | ⟨d, l3, hx_, rfl, hE_⟩⟩ := hr_.get
      · rw [HTK.out] at hx_; cases hx_
      have HI_ := Lib.hid (show idsR (k + 1) l2 = .ok (ds ++ [d], l3) by rw [idsR, HI.out]; simp only; rw [hx_])
      have hd32 := (takeR_le hx_).1
      have HY := Lib.hid (dig_map hd32)
      have HGG := Lib.hid hg_
      have HB4_ := Lib.hid (HB4.out.grown hg_ (fun e => by injection e with e; have := HNUM.out; omega))
      have HO_ := Lib.hid (show OwnI w2_ Zp A k c ds from own_kept HO.out hg_ (fun q hq e => by have h1 := own_from HO.out q (by rw [hq]; rfl); injection e with e; have := HNUM.out; have := HZZ.out; omega))
      have HK2_ := Lib.hid (HK2.out.trans (Kept.of_grown hg_ (fun j hj => ⟨by have := hj.1; have := HZW.out; omega, fun e => by injection e with e; exact hj.2.1 e.symm⟩)))
      have HZW_ := Lib.hid (Nat.le_trans HZW.out hg_.size)
      have HE_ := Lib.hid hE_
      clear hx_ hr_ hE_ HI HE HB4 HO HK2 HZW
      have HI := HI_; have HE := HE_; have HB4 := HB4_; have HO := HO_; have HK2 := HK2_; have HZW := HZW_
      clear HI_ HE_ HB4_ HO_ HK2_ HZW_
      obtain ⟨ys, hys⟩ : ∃ v, v = d.map B := ⟨_, rfl⟩
      have HYE := Lib.hid hys
      rw [← hys] at HY ⊢
      clear hys
      go_wp2_with fail
      refine hK _ _ (fun _ => HGG.out) ?_
      clear hK K hg_ HGG
      try clear w_
      rename World => w_
      have hysl := HY.out.len
      refine pl_act rfl (by exact wanted_none rfl) (fun K hK => ?_)
      go_wp2_with fail
      generalize hw_ : World.alloc w_ _ = w4_
      obtain ⟨hX_, hb_, hs_⟩ := alloc_eq hw_
      generalize hg_ : w_.heap.size = gx at hX_ hs_ ⊢
      refine hK _ _ (fun _ => grown_of_below hb_ _) ?_
      clear hK K hysl
      have HSX := Lib.hid (show Sl w4_ w4_.heap.size 32 (some ⟨gx, 0, none⟩) 1 ys from (show Blk w4_ gx 23 ys by have h := hX_; rw [fold_set _ ys (by rw [HY.out.len]; rfl)] at h; exact h).sl (by rw [HY.out.len]))
      have HB4_ := Lib.hid (HB4.out.grow hb_); have HO_ := Lib.hid (show OwnI w4_ Zp A k c ds from own_below HO.out hb_); have HE_ := Lib.hid (HE.out.grow hb_)
      have HK2_ := Lib.hid (HK2.out.trans (Kept.of_grow hb_ (fun j hj => by have := hj.1; have := HZW.out; omega)))
      have HZW_ := Lib.hid (Nat.le_trans HZW.out hb_.size)
      clear hw_ hX_ hb_ hs_ hg_ HE HB4 HO HK2 HZW
      have HE := HE_; have HB4 := HB4_; have HO := HO_; have HK2 := HK2_; have HZW := HZW_
      clear HE_ HB4_ HO_ HK2_ HZW_
      try clear w_
      rename World => w_
      have HIO := Lib.hid (show w_.ownsRow Zp 23 32 (.slice A k c) k (idCells ds) from HO.out)
      refine pl_act rfl (by first | rfl | (go_simp; done) | rfl) (fun K hK => ?_)
      show wpList _ _ _ [⟨some _, .call _, _, _, _, _⟩] _ _
      have hn32 := HN32.out
      go_wp2_with (at_builtin; refine wpl_apps rfl rfl el_id HIO.out rfl HSX.out rfl HY.out.one (by clear q1; omega) (by clear q1; omega) HZW.out ?_)
      clear hn32
      intro A4 c4 w4_ ho_ hg_ hA_
      have hne_ : ∀ q, A.map Addr.block = some q → Zp ≤ q := own_from HIO.out
      have HB4_ := Lib.hid (HB4.out.grown hg_ (fun e => by have h1 := hne_ _ e.symm; have := HNUM.out; have := HZZ.out; omega))
      have HO_ := Lib.hid (show OwnI w4_ Zp A4 (k + 1) c4 (ds ++ [d]) by unfold OwnI; rw [idCells_snoc, ← HYE.out]; exact ho_)
      have HE_ := Lib.hid (HE.out.keep (fun j hj1 hj2 => hg_.block j (by have := HE.out.bd; omega) (fun e => by have h1 := hne_ _ e.symm; have := HBD.out; have := HZZ.out; omega)) hg_.size)
      have HK2_ := Lib.hid (HK2.out.trans (Kept.of_grown hg_ (fun j hj => ⟨by have := hj.1; have := HZW.out; omega, fun e => by have h1 := hne_ _ e; have := hj.1; omega⟩)))
      have HZW_ := Lib.hid (Nat.le_trans HZW.out hg_.size)
      clear ho_ hg_ hA_ hne_ HE HB4 HO HK2 HZW HIO HSX
      have HE := HE_; have HB4 := HB4_; have HO := HO_; have HK2 := HK2_; have HZW := HZW_
      clear HE_ HB4_ HO_ HK2_ HZW_
      go_wp2_with fail
      refine hK _ _ (fun h => by cases h) ?_
      clear hK K
      try clear w_
      rename World => w_
      repeat (first | (refine pl_calm rfl rfl (by first | exact wanted_none rfl | (go_simp; done) | rfl) (fun w_ => by first | (go_simp; rfl) | (go_simp; done) | rfl) (fun K hK => ?_); go_simp; refine hK _ _ ?_; clear hK K) | (refine pl_skip rfl (by first | (go_simp; done) | rfl) (fun K hK => ?_); go_simp; refine hK _ _ ?_; clear hK K) | (refine pl_skipa rfl (by first | (go_simp; done) | rfl) (fun K hK => ?_); go_simp; refine hK _ _ ?_; clear hK K))
      refine pl_act rfl (by first | rfl | (go_simp; done) | rfl) (fun K hK => ?_)
      show wpList _ _ _ [⟨none, .store _ _ _, _, _, _, _⟩] _ _
      have hcl137 := certV_len (v := .slice A k c) noCer_ok
      go_wp2_with (first | (refine wpl_store1 (o := ⟨none, .store _ _ _, _, _, _, _⟩) rfl rfl HB4.out rfl rfl (by kernel_rfl) rfl rfl (by rw [hcl137]; omega) ?_))
      clear hcl137
      intro w5_ hb2_ hg_ hsz2_
      have HB4_ := Lib.hid (show Blk w5_ g4 74 (certV (.slice A4 (k + 1) c4) noCer) by rw [← cert_setv (v := .slice A k c)]; exact hb2_)
      have HO_ := Lib.hid (show OwnI w5_ Zp A4 (k + 1) c4 (ds ++ [d]) from own_kept HO.out hg_ (fun q hq e => by have h1 := own_from HO.out q (by rw [hq]; rfl); injection e with e; have := HNUM.out; have := HZZ.out; omega))
      have HE_ := Lib.hid (HE.out.off hg_ (.inl (by have := HNUM.out; omega)))
      have HK2_ := Lib.hid (HK2.out.trans (Kept.of_grown hg_ (fun j hj => ⟨by have := hj.1; have := HZW.out; omega, fun e => by injection e with e; exact hj.2.2 e.symm⟩)))
      clear hb2_ hg_ hsz2_ HE HB4 HO HK2 HZW
      go_wp2_with fail
      refine hK _ _ (fun h => by cases h) ?_
      clear hK K
      refine pl_done ?_
      go_wp2_with fail
      go_roundw
      all_goals clear q1
      case rel => exact ⟨k + 1, A4, c4, ds ++ [d], l3, by omega, by first | go_num | simp | rfl, HI, HE_, HB4_, HO_, HK2_⟩
      case measure => simp [intOf]; omega
    · obtain rfl : k = n := by omega
      have HR_ := HR.out
      rw [HI.out] at HR_
      simp only at HR_
      replace HR := Lib.hid HR_
      have hio := idsR_ok _ _ _ _ HI.out
      have HIDS := Lib.hid (show Ids w_ A k c ds from Ids.own HO.out hio.1 hio.2.1 (own_cap HO.out))
      have HAI := Lib.hid (show ∀ q, A.map Addr.block = some q → Zp ≤ q ∧ q < w_.heap.size from fun q hq => ⟨own_from HO.out q hq, own_lt HO.out q hq⟩)
      have HB5 := Lib.hid (HK2.out.blk HB5z.out ⟨by have := HNUM.out; have := HZZ.out; omega, by have := HNUM.out; omega, by have := HNUM.out; omega⟩)
      have HB6 := Lib.hid (HK2.out.blk HB6z.out ⟨by have := HNUM.out; have := HZZ.out; omega, by have := HNUM.out; omega, by have := HNUM.out; omega⟩)
      have HS5 := Lib.hid (sl_keepK HS5z.out (K := K2 Zp g g4) (fun q hq => by have h1 := HA5z.out q hq; have := HNUM.out; exact ⟨by omega, by omega, by omega⟩) HK2.out)
      have HK := Lib.hid (HKJ.out _ HK2.out)
      clear HR_ HI HO HB5z HB6z HS5z HKz HKJ HK2 hio
      rename World => wy
      obtain ⟨Z2, hZ2⟩ : ∃ z, z = wy.heap.size := ⟨_, rfl⟩
      have HZ2 := Lib.hid hZ2
      rw [← hZ2] at HAI HZW
      clear hZ2
      have HK3 := Lib.hid (show Kept (K3 Z2 g g4 g6) wy wy from Kept.refl _ _)
      go_wp2_with fail
      refine (etext_any (most := 100) _ HE.out (by omega)).mono ?_
      rintro e w2_ ⟨hg_, ⟨x, hx_, rfl⟩ | ⟨hb, l4, A6, c6, hx_, rfl, ho_, hc_, hE_⟩⟩
      · have HK_ := Lib.hid (kept_eye HK.out (by have := HZW.out; have := HZZ.out; have := HZ2.out; omega) hg_ (.inl rfl))
        have HX := Lib.hid (show lookC l = .error x by rw [← HRES.out, HR.out, hx_])
        clear hg_ hx_
        go_wp2_with fail
        exact ⟨by first | trivial | rfl, HERR.out x _ HK_.out HX.out⟩
      have HR_ := HR.out
      rw [hx_] at HR_
      simp only at HR_
      replace HR := Lib.hid HR_
      clear HR_ hx_
      have HK_ := Lib.hid (kept_eye HK.out (by have := HZW.out; have := HZZ.out; have := HZ2.out; omega) hg_ (.inl rfl))
      have HK3_ := Lib.hid (HK3.out.trans (Kept.of_grown hg_ (fun j hj => ⟨by have := hj.1; have := HZ2.out; omega, fun e => by injection e with e; exact hj.2.1 e.symm⟩)))
      have HB4_ := Lib.hid (HB4.out.grown hg_ (fun e => by injection e with e; have := HNUM.out; omega)); have HB6_ := Lib.hid (HB6.out.grown hg_ (fun e => by injection e with e; have := HNUM.out; omega))
      have HO6 := Lib.hid (show OwnAt w2_ Z2 A6 hb.length c6 (hb.map B) by rw [HZ2.out]; exact ho_)
      have HE_ := Lib.hid hE_
      have HZW2 := Lib.hid (show Z2 ≤ w2_.heap.size by rw [HZ2.out]; exact hg_.size)
      clear hg_ ho_ hc_ hE_ HK HK3 HB4 HB6 HE
      have HK := HK_; have HK3 := HK3_; have HB4 := HB4_; have HB6 := HB6_; have HE := HE_
      clear HK_ HK3_ HB4_ HB6_ HE_
      go_wp2_with (first | (refine wpl_store1 (o := ⟨none, .store _ _ _, _, _, _, _⟩) rfl rfl HB6.out rfl rfl (by kernel_rfl) rfl rfl (by simp) ?_))
      intro w3_ hb2_ hg2_ hsz2_
      have HB6_ := Lib.hid (show Blk w3_ g6 26 [.slice A6 hb.length c6] from hb2_)
      have HK_ := Lib.hid (kept_eye HK.out (by have := HZW.out; have := HZZ.out; have := HZW2.out; omega) hg2_ (.inr (.inr (.inr rfl))))
      have HK3_ := Lib.hid (HK3.out.trans (Kept.of_grown hg2_ (fun j hj => ⟨by have := hj.1; have := HZW2.out; omega, fun e => by injection e with e; exact hj.2.2.2 e.symm⟩)))
      have HB4_ := Lib.hid (HB4.out.grown hg2_ (fun e => by injection e with e; have := HNUM.out; omega))
      have HE_ := Lib.hid (HE.out.off hg2_ (.inl (by have := HNUM.out; omega)))
      have HO6_ := Lib.hid (show OwnAt w3_ Z2 A6 hb.length c6 (hb.map B) from own_kept HO6.out hg2_ (fun q hq e => by have h1 := own_from HO6.out q (by rw [hq]; rfl); injection e with e; have := HNUM.out; have := HZW.out; have := HZZ.out; omega))
      have HZW3 := Lib.hid (show Z2 ≤ w3_.heap.size by have := HZW2.out; omega)
      clear hb2_ hg2_ hsz2_ HK HK3 HB4 HB6 HE HO6 HZW2
      have HK := HK_; have HK3 := HK3_; have HB4 := HB4_; have HB6 := HB6_; have HE := HE_; have HO6 := HO6_
      clear HK_ HK3_ HB4_ HB6_ HE_ HO6_
      try clear w2_
      go_wp2_with fail
      refine (eid_any _ HE.out).mono ?_
      rintro e w2_ hr_
      obtain ⟨hg_, ⟨x, hx_, rfl⟩ | ⟨tg, l5, hx_, rfl, hE_⟩⟩ := hr_.get
      · have HK_ := Lib.hid (kept_eye HK.out (by have := HZW.out; have := HZZ.out; have := HZW3.out; omega) hg_ (.inl rfl))
        have HX := Lib.hid (show lookC l = .error x by rw [← HRES.out, HR.out, hx_])
        clear hg_ hx_ hr_
        go_wp2_with fail
        exact ⟨by first | trivial | rfl, HERR.out x _ HK_.out HX.out⟩
      have HLK := Lib.hid (show lookC l = .ok (⟨eb, ds, hb, tg⟩, l5) by rw [← HRES.out, HR.out, hx_])
      have htl := (takeR_le hx_).1
      have HTD := Lib.hid (dig_map htl)
      have HK_ := Lib.hid (kept_eye HK.out (by have := HZW.out; have := HZZ.out; have := HZW3.out; omega) hg_ (.inl rfl))
      have HK3_ := Lib.hid (HK3.out.trans (Kept.of_grown hg_ (fun j hj => ⟨by have := hj.1; have := HZW3.out; omega, fun e => by injection e with e; exact hj.2.1 e.symm⟩)))
      have HB4_ := Lib.hid (HB4.out.grown hg_ (fun e => by injection e with e; have := HNUM.out; omega)); have HB6_ := Lib.hid (HB6.out.grown hg_ (fun e => by injection e with e; have := HNUM.out; omega))
      have HO6_ := Lib.hid (show OwnAt w2_ Z2 A6 hb.length c6 (hb.map B) from own_kept HO6.out hg_ (fun q hq e => by have h1 := own_from HO6.out q (by rw [hq]; rfl); injection e with e; have := HNUM.out; have := HZW.out; have := HZZ.out; omega))
      have HE_ := Lib.hid hE_
      have HZW4 := Lib.hid (Nat.le_trans HZW3.out hg_.size)
      clear hg_ hx_ hr_ hE_ HK HK3 HB4 HB6 HE HO6 HR HRES
      have HK := HK_; have HK3 := HK3_; have HB4 := HB4_; have HB6 := HB6_; have HE := HE_; have HO6 := HO6_
      clear HK_ HK3_ HB4_ HB6_ HE_ HO6_
      have hcl137 := certV_len (v := .slice A k c) noCer_ok
      go_wp2_with (first | (with_reducible refine wpl_storem (o := ⟨none, .store _ _ _, _, _, _, _⟩) (off := 105) rfl rfl row_id HB4.out rfl rfl HTD.out.len (by rw [hcl137]; omega) HTD.out.one ?_))
      clear hcl137
      intro w4_ hb2_ hg2_ hsz2_
      have HB4_ := Lib.hid (show Blk w4_ g4 74 (certV (.slice A k c) ⟨noEnt, ds, noHdr, tg⟩) by have h := splice_c4 (v := .slice A k c) noCer_ok htl; rw [h] at hb2_; exact hb2_)
      have HK_ := Lib.hid (kept_eye HK.out (by have := HZW.out; have := HZZ.out; have := HZW4.out; omega) hg2_ (.inr (.inl rfl)))
      have HK3_ := Lib.hid (HK3.out.trans (Kept.of_grown hg2_ (fun j hj => ⟨by have := hj.1; have := HZW4.out; omega, fun e => by injection e with e; exact hj.2.2.1 e.symm⟩)))
      have HB6_ := Lib.hid (HB6.out.grown hg2_ (fun e => by injection e with e; have := HNUM.out; omega))
      have HE_ := Lib.hid (HE.out.off hg2_ (.inl (by have := HNUM.out; omega)))
      have HO6_ := Lib.hid (show OwnAt w4_ Z2 A6 hb.length c6 (hb.map B) from own_kept HO6.out hg2_ (fun q hq e => by have h1 := own_from HO6.out q (by rw [hq]; rfl); injection e with e; have := HNUM.out; have := HZW.out; have := HZZ.out; omega))
      clear hb2_ hg2_ hsz2_ HK HK3 HB4 HB6 HE HO6
      have HG := Lib.hid (show CGot w4_ (w.heap.size + 1) g4 g5 g6 ⟨eb, ds, hb, tg⟩ from
        ⟨A, k, c, A5, c5, A6, c6, HB4_.out, ids_keepK HIDS.out (K := K3 Z2 g g4 g6) (fun q hq => by have h1 := HAI.out q hq; have := HNUM.out; have := HZZ.out; exact ⟨h1.2, by omega, by omega, by omega⟩) HK3_.out, (fun q hq => by have h1 := HAI.out q hq; have := HNUM.out; have := HZZ.out; omega),
          HK3_.out.blk HB5.out ⟨by have := HNUM.out; have := HZZ.out; have := HZW.out; omega, by have := HNUM.out; omega, by have := HNUM.out; omega, by have := HNUM.out; omega⟩, sl_keepK HS5.out (K := K3 Z2 g g4 g6) (fun q hq => by have h1 := HA5z.out q hq; have := HNUM.out; have := HZW.out; exact ⟨by omega, by omega, by omega, by omega⟩) HK3_.out, (fun q hq => by have h1 := HA5z.out q hq; have := HNUM.out; omega),
          HB6_.out, Sl.of_own HO6_.out, (fun q hq => by have h1 := own_from HO6_.out q hq; have := HNUM.out; have := HZZ.out; have := HZW.out; omega)⟩)
      go_wp2_with fail
      refine bodyPost_end (results_none rfl _ _ _) rfl ?_
      have hkk := HK_.out
      rw [HZ.out] at hkk
      obtain ⟨h1, h2, h3⟩ := cend_low HPOS.out hkk
      exact ⟨⟨h1, fun r t h => by rw [HLK.out] at h; injection h with h; injection h with h4 h5; rw [← h4]; exact HG.out⟩, h2, h3, .inr ⟨l5, by rw [HLK.out]; rfl, rfl, HE_.out⟩⟩
end Go.Proofs.YtphmefhnffoafaaDoor
/- The contract of cert.Read. -/
namespace Go.Proofs.YtphmefhnffoafaaDoor
open Go.RowKit Go.Shelf
set_option linter.unusedVariables false
theorem idsR_errn : ∀ (n : Nat) {l : List UInt8} {x : Nat}, idsR n l = .error x → x ≠ 0
  | 0, l, x, h => by cases h
  | n + 1, l, x, h => by
    unfold idsR at h
    split at h
    · rename_i h1; injection h with h; subst h; exact idsR_errn n h1
    · split at h
      · rename_i h2; injection h with h; subst h; exact takeR_err h2
      · cases h
theorem lookC_err {l : List UInt8} {x : Nat} (h : lookC l = .error x) : x ≠ 0 := by
  unfold lookC at h
  split at h
  · rename_i h1; injection h with h; subst h; exact textR_err h1
  split at h
  · rename_i h1; injection h with h; subst h; exact numR_err h1
  split at h
  · rename_i h1; injection h with h; subst h; exact idsR_errn _ h1
  split at h
  · rename_i h1; injection h with h; subst h; exact textR_err h1
  split at h
  · rename_i h1; injection h with h; subst h; exact takeR_err h1
  cases h
theorem readE_nz {l : List UInt8} {x : Nat} (h : readE l = .error x) : x ≠ 0 := by
  unfold readE at h
  split at h
  · rename_i h1; injection h with h; subst h; exact lookE_err h1
  · split at h
    · cases h
    · injection h with h; omega
theorem readH_nz {l : List UInt8} {x : Nat} (h : readH l = .error x) : x ≠ 0 := by
  unfold readH at h
  split at h
  · rename_i h1; injection h with h; subst h; exact lookH_err h1
  · split at h
    · cases h
    · injection h with h; omega
/-- How a read certificate is told. -/
theorem readC_cases (l : List UInt8) : (∃ x, eyeErr (restOf (lookC l)) = x ∧ x ≠ 0 ∧ readC l = .error x) ∨ (∃ r, eyeErr (restOf (lookC l)) = 0 ∧ lookC l = .ok (r, []) ∧ readC l = readW r) := by
  cases h : lookC l with
  | error x => exact .inl ⟨x, rfl, lookC_err h, by unfold readC; rw [h]⟩
  | ok p =>
    obtain ⟨r, t⟩ := p
    cases t with
    | nil => exact .inr ⟨r, rfl, rfl, by unfold readC; rw [h]; simp⟩
    | cons a t => exact .inl ⟨3, rfl, by omega, by unfold readC; rw [h]; simp⟩
theorem readW_cases (r : Raw) : (∃ x, errOf (readE r.eb) = x ∧ x ≠ 0 ∧ readW r = .error x) ∨ (∃ e x, readE r.eb = .ok e ∧ errOf (readH r.hb) = x ∧ x ≠ 0 ∧ readW r = .error x) ∨ (∃ e h, readE r.eb = .ok e ∧ readH r.hb = .ok h ∧ readW r = .ok ⟨e, r.path, h, r.tag⟩) := by
  cases h : readE r.eb with
  | error x => exact .inl ⟨x, rfl, readE_nz h, by unfold readW; rw [h]⟩
  | ok e =>
    cases h2 : readH r.hb with
    | error x => exact .inr (.inl ⟨e, x, rfl, rfl, readH_nz h2, by unfold readW; rw [h]; simp only; rw [h2]⟩)
    | ok hh => exact .inr (.inr ⟨e, hh, rfl, rfl, by unfold readW; rw [h]; simp only; rw [h2]⟩)
theorem sl_offg {w w' : World} {A : Option Addr} {n g : Nat} {xs : List Value} (h : Sl w w.heap.size 1 A n xs) (hg : w.grownBy w' (some g)) (hA : ∀ k, A.map Addr.block = some k → g < k) : Sl w' w'.heap.size 1 A n xs := by
  refine ⟨h.1, fun hn => ?_⟩
  obtain ⟨b, off, e, hb, hc⟩ := h.2 hn
  refine ⟨b, off, e, Nat.lt_of_lt_of_le hb hg.size, fun j u hu => (World.cell?_of_block (a := ⟨b, off + j, none⟩) (hg.block b hb (fun q => by have := hA b (by rw [e]; rfl); injection q with q; omega))).trans (hc j u hu)⟩
set_option maxRecDepth 100000 in
set_option maxHeartbeats 4000000 in
theorem cread_any {A : Option Addr} {n c : Nat} {l : List UInt8} (w : World) (hs : Sl w w.heap.size 1 A n (l.map B)) (hn : n ≤ 1000000) :
    Calls Tryd.prog 55 #[.slice A n c] w fun e w' => ∃ A' n' c', e = .returned (.tuple #[.agg (certV (.slice A' n' c') (cerOf (readC l))).toArray, .int .i64 (errOf (readC l) : Int)]) ∧ Ids w' A' n' c' (cerOf (readC l)).path ∧ n' ≤ 1000 ∧ Below w.heap.size w w' := by
  have HS := Lib.hid hs
  have HCZ := Lib.hid (cert_cl (v := .slice none 0 0) rfl noCer_ok)
  have BE := Lib.hid built_certE
  obtain ⟨out, hout⟩ : ∃ q, q = readC l := ⟨_, rfl⟩
  have HOUT := Lib.hid hout
  have HN3 := Lib.hid (show (cerOf out).path.length ≤ 32 by rw [hout]; exact cerOf_path l)
  rw [← hout]
  obtain ⟨w_, hw⟩ : ∃ x, x = w := ⟨_, rfl⟩
  have HB := Lib.hid (show Below w.heap.size w w_ by rw [hw]; exact Below.refl _ _)
  suffices H : Calls Tryd.prog 55 #[.slice A n c] w_ fun e w' => ∃ A' n' c', e = .returned (.tuple #[.agg (certV (.slice A' n' c') (cerOf out)).toArray, .int .i64 (errOf out : Int)]) ∧ Ids w' A' n' c' (cerOf out).path ∧ n' ≤ 1000 ∧ Below w.heap.size w w' by rw [hw] at H; exact H
  clear hw hs hout
  obtain ⟨zc, hzc⟩ : ∃ v, v = certV (.slice none 0 0) noCer := ⟨_, rfl⟩
  have HZC := Lib.hid hzc
  have ZC := Lib.hid zero_cert
  have LC := Lib.hid len_cert
  rw [← hzc] at HCZ BE ZC LC
  clear hzc
  go_enter Tryd.func55, Tryd.ntmps55
  go_wp2_with (first | (with_reducible refine wpl_alloc (o := ⟨some 2, _, _, _, _, _⟩) rfl rfl ZC.out ?_))
  intro w2_ hb2_ hb_ hsz2_
  have HV := Lib.hid (at_mk hb2_ LC.out)
  have HVG := Lib.hid HB.out.size
  generalize hg_ : w_.heap.size = g2 at HV HVG ⊢
  clear hb2_ hsz2_ hg_
  have hb_ := hb_
  clear hb_
  have HB_ := Lib.hid (HB.out.grow' hb_)
  clear HB
  have HB := HB_
  clear HB_
  clear hb_
  try clear w_
  rename World => w_
  go_wp2_with (first | (with_reducible refine wpl_alloc (o := ⟨some 4, _, _, _, _, _⟩) rfl rfl ZC.out ?_))
  intro w2_ hb2_ hb_ hsz2_
  have HH := Lib.hid (at_mk hb2_ LC.out)
  have HLT := Lib.hid HV.out.lt
  generalize hg_ : w_.heap.size = g4 at HH HLT ⊢
  clear hb2_ hsz2_ hg_
  have hb_ := hb_
  clear hb_
  have HB_ := Lib.hid (HB.out.grow' hb_)
  clear HB
  have HB := HB_
  clear HB_
  have HV_ := Lib.hid (HV.out.grow hb_)
  clear HV
  have HV := HV_
  clear HV_
  clear hb_
  try clear w_
  rename World => w_
  go_wp2_with fail
  generalize hw1 : World.alloc w_ _ = w1_
  obtain ⟨hX1, hb1, hs1⟩ := alloc_eq hw1
  generalize hw2 : World.alloc w1_ _ = w2_
  obtain ⟨hX2, hb2, hs2⟩ := alloc_eq hw2
  have HX1 := Lib.hid (hX1.grow hb2)
  rw [hs1] at hX2 hs2
  have HX2 := Lib.hid hX2
  have hb_ := Grow.trans _ _ _ hb1 hb2
  have H45 := Lib.hid HH.out.lt
  have HSZ := Lib.hid hs2
  generalize hg_ : w_.heap.size = g5 at HX1 HX2 H45 HSZ ⊢
  clear hX1 hX2 hb1 hb2 hs1 hs2 hw1 hw2 hg_
  have hb_ := hb_
  clear hb_
  have HB_ := Lib.hid (HB.out.grow' hb_)
  clear HB
  have HB := HB_
  clear HB_
  have HV_ := Lib.hid (HV.out.grow hb_)
  clear HV
  have HV := HV_
  clear HV_
  have HH_ := Lib.hid (HH.out.grow hb_)
  clear HH
  have HH := HH_
  clear HH_
  clear hb_
  try clear w_
  rename World => w_
  refine (fread2_any A n c l 103 #[.pointer (some ⟨g5, 0, none⟩), .pointer (some ⟨g4, 0, none⟩), .pointer (some ⟨g5 + 1, 0, none⟩)] (restOf (lookC l)) (fun w2 => Below g4 w_ w2 ∧ ∀ r t, lookC l = .ok (r, t) → CGot w2 (w_.heap.size + 1) g4 g5 (g5 + 1) r) _ (HS.out.grow HB.out) hn (fun _ _ => rfl) (fun w1 Bd g hw hg he => (cread1_any w_ w1 ⟨H45.out, by omega, by have := HSZ.out; omega, by have := he.lo; omega, by have := he.lo; have := he.lt; omega, he.lt, hw⟩ (by rw [← HZC.out]; exact HH.out.blk) HX1.out HX2.out he).mono fun e w2 h => ⟨h.1, h.2.1, h.2.2.1, h.2.2.2⟩)).mono ?_
  rintro e w5_ ⟨rfl, w2_, ⟨hlow, hgot⟩, hgr⟩
  have HV_ := Lib.hid (show At w5_ g2 74 137 zc from ⟨(hgr.block g2 (Nat.lt_of_lt_of_le (by have := HLT.out; have := HH.out.lt; omega) hlow.size) (fun e => by injection e with e; have := HLT.out; have := HH.out.lt; omega)).trans ((hlow.block g2 HLT.out).trans HV.out.blk), HV.out.len⟩)
  have HB_ := Lib.hid (show Below w.heap.size w w5_ from ⟨hgr.os.trans (hlow.os.trans HB.out.os), hgr.tape.trans (hlow.tape.trans HB.out.tape), hgr.output.trans (hlow.output.trans HB.out.output), Nat.le_trans HB.out.size (Nat.le_trans hlow.size hgr.size), fun k hk => by
    have h1 := HVG.out; have h2 := HLT.out; have h3 := HH.out.lt
    exact (hgr.block k (by have := hlow.size; omega) (fun e => by injection e with e; omega)).trans ((hlow.block k (by omega)).trans (HB.out.block k hk))⟩)
  have HGOT := Lib.hid (show ∀ r t, lookC l = .ok (r, t) → CGot w5_ (g5 + 2) g4 g5 (g5 + 1) r from fun r t h => by
    obtain ⟨A1, n1, c1, A5, c5, A6, c6, k1, k2, k3, k4, k5, k6, k7, k8, k9⟩ := hgot r t h
    have h3 := HH.out.lt; have h4 := HSZ.out; have h5 := H45.out
    refine ⟨A1, n1, c1, A5, c5, A6, c6, k1.grown hgr (fun e => by injection e with e; omega), k2.off hgr (fun k hk => by have := k3 k hk; omega), (fun k hk => by have := k3 k hk; omega), k4.grown hgr (fun e => by injection e with e; omega), sl_offg k5 hgr (fun k hk => by have := k6 k hk; omega), (fun k hk => by have := k6 k hk; omega), k7.grown hgr (fun e => by injection e with e; omega), sl_offg k8 hgr (fun k hk => by have := k9 k hk; omega), (fun k hk => by have := k9 k hk; omega)⟩)
  clear hlow hgot hgr HV HB HX1 HX2 HSZ HH
  have HV := HV_; have HB := HB_
  clear HV_ HB_
  try clear w2_
  try clear w_
  rename World => w_
  have HW0 := Lib.hid (show ∀ er : Nat, er ≠ 0 → out = .error er → cerOf out = noCer ∧ errOf out = er from fun er h0 h1 => by rw [h1]; exact ⟨rfl, rfl⟩)
  rcases readC_cases l with ⟨er, her, her0, hrd⟩ | ⟨r, her, hlk, hrd⟩
  · rw [her]
    rw [← HOUT.out] at hrd
    obtain ⟨h1, h2⟩ := HW0.out er her0 hrd
    have HF1 := Lib.hid h1; have HF2 := Lib.hid h2
    have d0 : ((er : Int) == 0) = false := by simp; omega
    have d1 : ((er : Int) != 0) = true := by simp; omega
    clear her her0 hrd h1 h2
    go_wp2_with (first | (with_reducible refine wpl_stop (o := ⟨some 29, _, _, _, _, _⟩) ?_))
    refine stop_go ?_
    refine wpl_build rfl rfl BE.out ?_
    go_wp2_with (first | (with_reducible refine wpl_storeb (o := ⟨none, .store _ _ _, _, _, _, _⟩) rfl rfl row_cert HV.out.blk rfl rfl HV.out.len HCZ.out.len HCZ.out.one ?_))
    intro w2_ hb2_ hg2_ hsz2_
    have HV_ := Lib.hid hb2_
    have HB_ := Lib.hid (put_below HB.out HVG.out hg2_)
    clear hb2_ hg2_ hsz2_
    go_wp2_with fail
    refine ret_cell2 rfl row_cert HV_.out rfl HCZ.out.len rfl rfl ?_
    exact ⟨none, 0, 0, by rw [HF1.out, HF2.out, HZC.out]; rfl, by rw [HF1.out]; exact Ids.none_ _, by omega, HB_.out⟩
  · rw [her]
    rw [← HOUT.out] at hrd
    obtain ⟨A1, n1, c1, A5, c5, A6, c6, k1, k2, k3, k4, k5, k6, k7, k8, k9⟩ := HGOT.out r [] hlk
    have hlk2 := lookC_ok hlk
    have HOK0 := Lib.hid (show (⟨noEnt, r.path, noHdr, r.tag⟩ : Cer).ok from ⟨noEnt_ok, hlk2.2.2.2.1, noHdr_ok, hlk2.2.2.2.2⟩)
    have HH := Lib.hid k1; have HI := Lib.hid k2; have HAI := Lib.hid k3; have HB5 := Lib.hid k4; have HS5 := Lib.hid k5; have HA5 := Lib.hid k6; have HB6 := Lib.hid k7; have HS6 := Lib.hid k8; have HA6 := Lib.hid k9
    have HL5 := Lib.hid hlk2.1; have HL6 := Lib.hid hlk2.2.1
    have HN1 := Lib.hid (show n1 ≤ 32 by rw [← k2.2.1]; exact hlk2.2.2.1)
    have HRD := Lib.hid hrd
    clear k1 k2 k3 k4 k5 k6 k7 k8 k9 hlk hlk2 her hrd HGOT
    have c5 := HB5.out.at_ (i := 0) rfl
    go_wp2_with fail
    refine (eread_any _ HS5.out (by have := HL5.out; omega)).mono ?_
    rintro e w2_ ⟨rfl, hb_⟩
    clear c5 HS5 HB5
    have HI_ := Lib.hid (HI.out.grow hb_); have HB6_ := Lib.hid (HB6.out.grow hb_); have HS6_ := Lib.hid (HS6.out.grow hb_); have HV_ := Lib.hid (HV.out.grow hb_); have HH_ := Lib.hid (HH.out.grow hb_); have HB_ := Lib.hid (HB.out.grow' hb_)
    clear HI HB6 HS6 HV HH HB hb_
    have HI := HI_; have HB6 := HB6_; have HS6 := HS6_; have HV := HV_; have HH := HH_; have HB := HB_
    clear HI_ HB6_ HS6_ HV_ HH_ HB_
    try clear w_
    rename World => w_
    obtain ⟨ee, hee⟩ : ∃ q, q = entOf (readE r.eb) := ⟨_, rfl⟩
    have HEE := Lib.hid hee
    have HEO := Lib.hid (show ee.ok by rw [hee]; exact entOf_ok _)
    have HEC := Lib.hid (ent_cl HEO.out)
    have HSPL := Lib.hid (splice_c1 (v := .slice A1 n1 c1) HOK0.out HEO.out)
    have HOK1 := Lib.hid (show (⟨ee, r.path, noHdr, r.tag⟩ : Cer).ok from ⟨HEO.out, HOK0.out.2.1, noHdr_ok, HOK0.out.2.2.2⟩)
    obtain ⟨er, her⟩ : ∃ q, q = errOf (readE r.eb) := ⟨_, rfl⟩
    have HER := Lib.hid her
    rw [← hee, ← her]
    obtain ⟨ev, hev⟩ : ∃ q, q = entV ee := ⟨_, rfl⟩
    rw [← hev] at HEC HSPL ⊢
    clear hee her hev
    have hcl := certV_len (v := .slice A1 n1 c1) HOK0.out
    go_wp2_with (first | (with_reducible refine wpl_storem (o := ⟨none, .store _ _ _, _, _, _, _⟩) (off := 0) rfl rfl row_entry HH.out rfl rfl HEC.out.len (by rw [hcl]; omega) HEC.out.one ?_))
    intro w2_ hb2_ hg_ hsz2_
    have HH_ := Lib.hid (show Blk w2_ g4 74 (certV (.slice A1 n1 c1) ⟨ee, r.path, noHdr, r.tag⟩) by rw [HSPL.out] at hb2_; exact hb2_)
    have HI_ := Lib.hid (HI.out.off hg_ (fun k hk => by have := HAI.out k hk; have := H45.out; omega)); have HB6_ := Lib.hid (HB6.out.grown hg_ (fun e => by injection e with e; have := H45.out; omega)); have HS6_ := Lib.hid (sl_offg HS6.out hg_ (fun k hk => by have := HA6.out k hk; have := H45.out; omega)); have HV_ := Lib.hid (At.off HV.out hg_ (Nat.ne_of_lt HLT.out))
    have HB_ := Lib.hid (put_below HB.out (Nat.le_trans HVG.out (Nat.le_of_lt HLT.out)) hg_)
    clear hb2_ hg_ hsz2_ hcl HI HB6 HS6 HV HH HB HSPL
    have HI := HI_; have HB6 := HB6_; have HS6 := HS6_; have HV := HV_; have HH := HH_; have HB := HB_
    clear HI_ HB6_ HS6_ HV_ HH_ HB_
    try clear w_
    rename World => w_
    by_cases he0 : er = 0
    · subst he0
      have c6 := HB6.out.at_ (i := 0) rfl
      go_wp2_with fail
      refine (hread_any _ HS6.out (by have := HL6.out; omega)).mono ?_
      rintro e w2_ ⟨rfl, hb_⟩
      clear c6 HS6 HB6
      have HI_ := Lib.hid (HI.out.grow hb_); have HV_ := Lib.hid (HV.out.grow hb_); have HH_ := Lib.hid (HH.out.grow hb_); have HB_ := Lib.hid (HB.out.grow' hb_)
      clear HI HV HH HB hb_
      have HI := HI_; have HV := HV_; have HH := HH_; have HB := HB_
      clear HI_ HV_ HH_ HB_
      try clear w_
      rename World => w_
      obtain ⟨hh, hhh⟩ : ∃ q, q = hdrOf (readH r.hb) := ⟨_, rfl⟩
      have HHE := Lib.hid hhh
      have HHO := Lib.hid (show hh.ok by rw [hhh]; exact hdrOf_ok _)
      have HHC := Lib.hid (hdr_cl HHO.out)
      have HSPL := Lib.hid (splice_c3 (v := .slice A1 n1 c1) HOK1.out HHO.out)
      have HOK2 := Lib.hid (show (⟨ee, r.path, hh, r.tag⟩ : Cer).ok from ⟨HEO.out, HOK0.out.2.1, HHO.out, HOK0.out.2.2.2⟩)
      obtain ⟨ex, hex⟩ : ∃ q, q = errOf (readH r.hb) := ⟨_, rfl⟩
      have HEX := Lib.hid hex
      rw [← hhh, ← hex]
      obtain ⟨hv, hhv⟩ : ∃ q, q = hdrV hh := ⟨_, rfl⟩
      rw [← hhv] at HHC HSPL ⊢
      clear hhh hex hhv
      have hcl := certV_len (v := .slice A1 n1 c1) HOK1.out
      go_wp2_with (first | (with_reducible refine wpl_storem (o := ⟨none, .store _ _ _, _, _, _, _⟩) (off := 38) rfl rfl row_header HH.out rfl rfl HHC.out.len (by rw [hcl]; omega) HHC.out.one ?_))
      intro w2_ hb2_ hg_ hsz2_
      have HH_ := Lib.hid (show Blk w2_ g4 74 (certV (.slice A1 n1 c1) ⟨ee, r.path, hh, r.tag⟩) by rw [HSPL.out] at hb2_; exact hb2_)
      have HI_ := Lib.hid (HI.out.off hg_ (fun k hk => by have := HAI.out k hk; have := H45.out; omega)); have HV_ := Lib.hid (At.off HV.out hg_ (Nat.ne_of_lt HLT.out))
      have HB_ := Lib.hid (put_below HB.out (Nat.le_trans HVG.out (Nat.le_of_lt HLT.out)) hg_)
      clear hb2_ hg_ hsz2_ hcl HI HV HH HB HSPL
      have HI := HI_; have HV := HV_; have HH := HH_; have HB := HB_
      clear HI_ HV_ HH_ HB_
      try clear w_
      rename World => w_
      have HSOK := Lib.hid (show ex = 0 → out = .ok ⟨ee, r.path, hh, r.tag⟩ from fun h0 => by
        rcases readW_cases r with ⟨x, h1, h2, h3⟩ | ⟨e, x, h1, h2, h3, h4⟩ | ⟨e, h, h1, h2, h3⟩
        · exact absurd (h1.symm.trans HER.out.symm) (fun h => h2 h)
        · exact absurd ((h2.symm.trans HEX.out.symm).trans h0) h3
        · rw [HRD.out, h3, HEE.out, HHE.out, h1, h2]; rfl)
      have HSNO := Lib.hid (show ex ≠ 0 → out = .error ex from fun h0 => by
        rcases readW_cases r with ⟨x, h1, h2, h3⟩ | ⟨e, x, h1, h2, h3, h4⟩ | ⟨e, h, h1, h2, h3⟩
        · exact absurd (h1.symm.trans HER.out.symm) (fun h => h2 h)
        · rw [HRD.out, h4, HEX.out, h2]
        · exact absurd (HEX.out.trans (by rw [h2]; rfl)) h0)
      by_cases hx0 : ex = 0
      · have hok := HSOK.out hx0
        subst hx0
        have HCL := Lib.hid (cert_cl (v := .slice A1 n1 c1) rfl HOK2.out)
        have HFIN := Lib.hid (show cerOf out = ⟨ee, r.path, hh, r.tag⟩ ∧ errOf out = 0 by rw [hok]; exact ⟨rfl, rfl⟩)
        obtain ⟨cv, hcv⟩ : ∃ q, q = certV (.slice A1 n1 c1) ⟨ee, r.path, hh, r.tag⟩ := ⟨_, rfl⟩
        have HCV := Lib.hid hcv
        rw [← hcv] at HH HCL
        clear hok hcv
        go_wp2_with (first | (with_reducible refine wpl_loadb (o := ⟨some 31, _, _, _, _, _⟩) rfl rfl row_cert HH.out rfl HCL.out.len ?_) | (with_reducible refine wpl_storeb (o := ⟨none, .store _ _ _, _, _, _, _⟩) rfl rfl row_cert HV.out.blk rfl rfl HV.out.len HCL.out.len HCL.out.one ?_))
        intro w2_ hb2_ hg2_ hsz2_
        have HV_ := Lib.hid hb2_
        have HI_ := Lib.hid (HI.out.off hg2_ (fun k hk => by have := HAI.out k hk; have := H45.out; have := HLT.out; omega))
        have HB_ := Lib.hid (put_below HB.out HVG.out hg2_)
        clear hb2_ hg2_ hsz2_
        go_wp2_with fail
        refine ret_cell2 rfl row_cert HV_.out rfl HCL.out.len rfl rfl ?_
        exact ⟨A1, n1, c1, by rw [HFIN.out.1, HFIN.out.2, ← HCV.out]; rfl, by rw [HFIN.out.1]; exact HI_.out, by have := HN1.out; omega, HB_.out⟩
      · have hno := HSNO.out hx0
        obtain ⟨h1, h2⟩ := HW0.out ex hx0 hno
        have HF1 := Lib.hid h1; have HF2 := Lib.hid h2
        have d0 : ((ex : Int) == 0) = false := by simp; omega
        have d1 : ((ex : Int) != 0) = true := by simp; omega
        clear hno h1 h2 hx0
        go_wp2_with (first | (with_reducible refine wpl_stop (o := ⟨some 29, _, _, _, _, _⟩) ?_))
        refine stop_go ?_
        refine wpl_build rfl rfl BE.out ?_
        go_wp2_with (first | (with_reducible refine wpl_storeb (o := ⟨none, .store _ _ _, _, _, _, _⟩) rfl rfl row_cert HV.out.blk rfl rfl HV.out.len HCZ.out.len HCZ.out.one ?_))
        intro w2_ hb2_ hg2_ hsz2_
        have HV_ := Lib.hid hb2_
        have HB_ := Lib.hid (put_below HB.out HVG.out hg2_)
        clear hb2_ hg2_ hsz2_
        go_wp2_with fail
        refine ret_cell2 rfl row_cert HV_.out rfl HCZ.out.len rfl rfl ?_
        exact ⟨none, 0, 0, by rw [HF1.out, HF2.out, HZC.out]; rfl, by rw [HF1.out]; exact Ids.none_ _, by omega, HB_.out⟩
    · have hno : out = .error er := by
        rcases readW_cases r with ⟨x, h1, h2, h3⟩ | ⟨e, x, h1, h2, h3, h4⟩ | ⟨e, h, h1, h2, h3⟩
        · rw [HRD.out, h3, HER.out, h1]
        · exact absurd (HER.out.trans (by rw [h1]; rfl)) he0
        · exact absurd (HER.out.trans (by rw [h1]; rfl)) he0
      obtain ⟨h1, h2⟩ := HW0.out er he0 hno
      have HF1 := Lib.hid h1; have HF2 := Lib.hid h2
      have d0 : ((er : Int) == 0) = false := by simp; omega
      have d1 : ((er : Int) != 0) = true := by simp; omega
      clear hno h1 h2 he0
      go_wp2_with (first | (with_reducible refine wpl_stop (o := ⟨some 29, _, _, _, _, _⟩) ?_))
      refine stop_go ?_
      refine wpl_build rfl rfl BE.out ?_
      go_wp2_with (first | (with_reducible refine wpl_storeb (o := ⟨none, .store _ _ _, _, _, _, _⟩) rfl rfl row_cert HV.out.blk rfl rfl HV.out.len HCZ.out.len HCZ.out.one ?_))
      intro w2_ hb2_ hg2_ hsz2_
      have HV_ := Lib.hid hb2_
      have HB_ := Lib.hid (put_below HB.out HVG.out hg2_)
      clear hb2_ hg2_ hsz2_
      go_wp2_with fail
      refine ret_cell2 rfl row_cert HV_.out rfl HCZ.out.len rfl rfl ?_
      exact ⟨none, 0, 0, by rw [HF1.out, HF2.out, HZC.out]; rfl, by rw [HF1.out]; exact Ids.none_ _, by omega, HB_.out⟩
end Go.Proofs.YtphmefhnffoafaaDoor

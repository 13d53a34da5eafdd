/- The contract of tx.look. Printed by mktlook.py. -/
import Derived.Test.YtobmldegjajocaaCommandRateT22
import Derived.Test.YtobmldegjajocaaCommandRateT15
import Derived.Deep.CutRange
set_option linter.unusedSimpArgs false
/- The contract of tx.look. Printed by mktlook.py. -/
namespace Go.Proofs.Ytobmldegjajocaa
open Go.RowKit Go.Shelf
set_option linter.unusedVariables false
def noIn : Inp := ⟨zeroD, 0, 0, []⟩
def noOut : Outp := ⟨zeroD, 0⟩
theorem noIn_ok : noIn.ok := ⟨by simp [noIn, zeroD], by unfold I64; simp [noIn], by unfold U64; simp [noIn]⟩
theorem noOut_ok : noOut.ok := ⟨by simp [noOut, zeroD], by unfold U64; simp [noOut]⟩
theorem zero_txT : (Try.prog.info? 26).map (·.zero) = some (some (.agg (txV none 0 0 none 0 0 0 0).toArray)) := by kernel_rfl
theorem zero_tinT : (Try.prog.info? 105).map (·.zero) = some (some (.agg (inV (.slice none 0 0) noIn).toArray)) := by kernel_rfl
theorem zero_toutT : (Try.prog.info? 31).map (·.zero) = some (some (.agg (outV noOut).toArray)) := by kernel_rfl
theorem info_tin : (Try.prog.info? 105).map (fun i => (i.zero, i.size, i.bytes)) = some (some (.agg (inV (.slice none 0 0) noIn).toArray), 35, 72) := by kernel_rfl
theorem info_tout : (Try.prog.info? 31).map (fun i => (i.zero, i.size, i.bytes)) = some (some (.agg (outV noOut).toArray), 33, 40) := by kernel_rfl
theorem el_tin : ElemT Try.prog 22 105 35 72 := elemT Try.underlying22 info_tin rfl (by omega)
theorem el_tout : ElemT Try.prog 23 31 33 40 := elemT Try.underlying23 info_tout rfl (by omega)
def ptZ : List Value := zeroD.map B ++ [Value.int .i64 0]
theorem ptZ_len : ptZ.length = 33 := by simp [ptZ, zeroD]
theorem built_point0 (parts : List (Nat × Value)) : Try.prog.built 103 parts = Instr.fill (fun i => (#[(0, 32), (32, 1)] : Array (Nat × Nat))[i]?) ptZ.toArray parts := by kernel_rfl
theorem built_tin0 (parts : List (Nat × Value)) : Try.prog.built 105 parts = Instr.fill (fun i => (#[(0, 33), (33, 1), (34, 1)] : Array (Nat × Nat))[i]?) (inV (.slice none 0 0) noIn).toArray parts := by kernel_rfl
theorem built_tout0 (parts : List (Nat × Value)) : Try.prog.built 31 parts = Instr.fill (fun i => (#[(0, 32), (32, 1)] : Array (Nat × Nat))[i]?) (outV noOut).toArray parts := by kernel_rfl
theorem bt_point {xs : List Value} {z : Int} (h : xs.length = 32) : Try.prog.built 103 [(0, .agg xs.toArray), (1, .int .i64 z)] = some (xs ++ [Value.int .i64 z]).toArray := by
  rw [built_point0, fill_cons (off := 0) (s := 32) (cs := xs) (by simp) rfl h (by rw [ptZ_len]; omega)]
  have e : splice ptZ 0 xs = xs ++ [Value.int .i64 0] := by
    rw [show ptZ = [] ++ (zeroD.map B ++ [Value.int .i64 0]) from rfl, splice_mid (off := 0) (by rfl) (by simp [h, zeroD])]; rfl
  rw [e, fill_cons (off := 32) (s := 1) (cs := [Value.int .i64 z]) (by simp) rfl rfl (by simp [h]), fill_nil]
  rw [show xs ++ [Value.int .i64 0] = xs ++ ([Value.int .i64 0] ++ []) from by simp, splice_mid (off := 32) (by simp [h]) (by simp)]; simp
theorem bt_tin {xs : List Value} (h : xs.length = 33) : Try.prog.built 105 [(0, .agg xs.toArray)] = some (xs ++ [Value.int .u64 0, .slice none 0 0]).toArray := by
  rw [built_tin0, fill_cons (off := 0) (s := 33) (cs := xs) (by simp) rfl h (by rw [inV_len noIn_ok]; omega), fill_nil]
  rw [show inV (.slice none 0 0) noIn = [] ++ ((zeroD.map B ++ [Value.int .i64 0]) ++ [Value.int .u64 0, .slice none 0 0]) from by simp [inV, noIn], splice_mid (off := 0) (by rfl) (by simp [h, zeroD])]; rfl
theorem bt_tout {xs : List Value} (h : xs.length = 32) : Try.prog.built 31 [(0, .agg xs.toArray)] = some (xs ++ [Value.int .u64 0]).toArray := by
  rw [built_tout0, fill_cons (off := 0) (s := 32) (cs := xs) (by simp) rfl h (by rw [outV_len noOut_ok]; omega), fill_nil]
  rw [show outV noOut = [] ++ (zeroD.map B ++ [Value.int .u64 0]) from by simp [outV, noOut], splice_mid (off := 0) (by rfl) (by simp [h, zeroD])]; rfl
theorem in_set {d : List UInt8} {v : Value} {z a : Int} {s : List UInt8} (h : d.length = 32) : (((d.map B ++ [Value.int .i64 z]) ++ [Value.int .u64 0, .slice none 0 0]).set 33 (.int .u64 a)).set 34 v = inV v ⟨d, z, a, s⟩ := by
  have h2 : (d.map B).length = 32 := by simp [h]
  unfold inV
  simp only
  generalize d.map B = q at h2 ⊢
  rw [List.append_assoc, List.set_append_right _ _ (by omega), List.set_append_right _ _ (by omega), h2]; rfl
theorem out_set {d : List UInt8} {a : Int} (h : d.length = 32) : (d.map B ++ [Value.int .u64 0]).set 32 (.int .u64 a) = outV ⟨d, a⟩ := by
  have h2 : (d.map B).length = 32 := by simp [h]
  unfold outV
  simp only
  generalize d.map B = q at h2 ⊢
  rw [List.set_append_right _ _ (by omega), h2]; rfl
theorem in_one {v : Value} {i : Inp} (hv : v.oneCell' = true) : ∀ u ∈ inV v i, u.oneCell' = true := by
  intro u hu
  unfold inV at hu
  rcases List.mem_append.1 hu with hu | hu
  · exact all_bytes _ u hu
  · simp only [List.mem_cons, List.not_mem_nil, or_false] at hu
    rcases hu with rfl | rfl | rfl
    · rfl
    · rfl
    · exact hv
theorem out_one {o : Outp} : ∀ u ∈ outV o, u.oneCell' = true := by
  intro u hu
  unfold outV at hu
  rcases List.mem_append.1 hu with hu | hu
  · exact all_bytes _ u hu
  · have : u = .int .u64 o.amount := by simpa using hu
    rw [this]; rfl
theorem grownBy_row {a b c : World} {r : Option Nat} {A : Option Addr} {Z : Nat} (h : a.grownBy b r) (k : b.grownBy c (A.map Addr.block)) (hA : ∀ q, A.map Addr.block = some q → Z ≤ q) (hZ : a.heap.size ≤ Z) : a.grownBy c r :=
  ⟨k.os.trans h.os, k.tape.trans h.tape, k.output.trans h.output, Nat.le_trans h.size k.size, fun i hi hn => (k.block i (Nat.lt_of_lt_of_le hi h.size) (fun e => by have := hA i e.symm; omega)).trans (h.block i hi hn)⟩
theorem EyeAt.row {w w' : World} {Lo Bd g Z : Nat} {l : List UInt8} {A : Option Addr} (h : EyeAt w Lo Bd g l) (k : w.grownBy w' (A.map Addr.block)) (hA : ∀ q, A.map Addr.block = some q → Z ≤ q) (hZ : Bd ≤ Z) : EyeAt w' Lo Bd g l :=
  h.keep (fun i _ hi => k.block i (by have := h.bd; omega) (fun e => by have := hA i e.symm; omega)) k.size
theorem InsO.base {w : World} {Z Z2 n c : Nat} {A : Option Addr} {l : List (Value × Inp)} (h : InsO w Z A n c l) (hz : Z2 ≤ Z) : InsO w Z2 A n c l :=
  ⟨own_base h.1 hz, fun p hp => by
    obtain ⟨⟨A', c', e, hc, ho⟩, hk⟩ := h.2.1 p hp
    exact ⟨⟨A', c', e, hc, own_base ho hz⟩, hk⟩, h.2.2⟩
theorem OutsO.base {w : World} {Z Z2 n c : Nat} {A : Option Addr} {l : List Outp} (h : OutsO w Z A n c l) (hz : Z2 ≤ Z) : OutsO w Z2 A n c l := ⟨own_base h.1 hz, h.2⟩
/-- What look leaves. -/
def LookR (w w' : World) (Lo Bd g : Nat) (l : List UInt8) (e : Ending) : Prop := w.grownBy w' (some g) ∧ ((∃ x, lookT l = .error x ∧ e = .panicked (brk x)) ∨
  (∃ t l' A n c A2 n2 c2, lookT l = .ok (t, l') ∧ e = .returned (.agg (txV A n c A2 n2 c2 t.fee t.expiry).toArray) ∧ TGot w' w.heap.size A n c A2 n2 c2 t ∧ EyeAt w' Lo Bd g l'))
set_option maxRecDepth 100000 in
set_option maxHeartbeats 8000000 in
theorem tlook_any {Lo Bd g : Nat} {l : List UInt8} (w : World) (h : EyeAt w Lo Bd g l) : Calls Try.prog 75 #[.pointer (some ⟨g, 0, none⟩)] w fun e w' => LookR w w' Lo Bd g l e := by
  have HE := Lib.hid h
  obtain ⟨res, hres⟩ : ∃ r, r = lookT l := ⟨_, rfl⟩
  have HRES := Lib.hid hres
  have HERR := Lib.hid (fun (x : Nat) (w' : World) (hx : res = .error x) (hg : w.grownBy w' (some g)) => show LookR w w' Lo Bd g l (.panicked (brk x)) from ⟨hg, .inl ⟨x, by rw [← hres]; exact hx, rfl⟩⟩)
  unfold lookT at hres
  have HR := Lib.hid hres
  obtain ⟨gv, hgv⟩ : ∃ q, q = w.heap.size := ⟨_, rfl⟩
  have HN := Lib.hid (show w.heap.size ≤ gv by omega)
  have HL := Lib.hid (show Bd ≤ gv by have := h.bd; omega)
  have HQ := Lib.hid (show gv ≠ g by have := h.bd; omega)
  have HGV := Lib.hid (show g < gv by have := h.bd; omega)
  clear h hres
  go_enter Try.func75, Try.ntmps75
  go_wp2_with (first | (with_reducible refine wpl_alloc (o := ⟨some 2, _, _, _, _, _⟩) rfl rfl zero_txT ?_))
  intro w2_ hb2_ hbw_ hsz2_
  rw [← hgv] at hb2_ ⊢
  have HV := Lib.hid hb2_
  have HG := Lib.hid (grown_of_below hbw_ (some g))
  have HE_ := Lib.hid (HE.out.grow hbw_)
  have HZS := Lib.hid (show gv + 1 ≤ w2_.heap.size by omega)
  clear hb2_ hbw_ hsz2_ HE hgv
  have HE := HE_
  clear HE_
  try clear w_
  rename World => w_
  go_wp2_with fail
  refine (enum_any (most := 16) _ HE.out).mono ?_
  rintro e w2_ hr_
  obtain ⟨hg_, ⟨x_, hx_, rfl⟩ | ⟨v0, l0, hx_, rfl, hE_⟩⟩ := hr_.get
  · have HX_ := Lib.hid hx_
    have HG_ := Lib.hid (grownBy_trans HG.out hg_)
    clear hr_ hx_ hg_
    go_wp2_with fail
    exact ⟨by first | trivial | rfl, HERR.out x_ _ (by rw [HR.out, HX_.out]) HG_.out⟩
  have HX0 := Lib.hid hx_
  replace HG := Lib.hid (grownBy_trans HG.out hg_)
  have HR_ := HR.out
  rw [hx_] at HR_
  simp only at HR_
  replace HR := Lib.hid HR_
  clear HR_
  replace HV := Lib.hid (Blk.grown HV.out hg_ (fun e => by injection e with e; have := HQ.out; omega))
  replace HE := Lib.hid hE_
  try clear hr_
  clear hx_ hE_ hg_
  try clear w_
  rename World => w_
  have HN16 := Lib.hid (numR_le HX0.out).1
  obtain ⟨Z, hZ⟩ : ∃ z, z = gv + 1 := ⟨_, rfl⟩
  have HZ := Lib.hid hZ
  have HBZ := Lib.hid (show Bd ≤ Z by have := HL.out; omega)
  have HZ0 := Lib.hid (show Z ≤ w_.heap.size by have := HV.out.lt; omega)
  clear HZS hZ
  go_wp2_with fail
  go_loopw [7] (fun iv wr => ∃ k : Nat, ∃ A c, ∃ ls : List (Value × Inp), ∃ l2, k ≤ v0 ∧ iv = .int .u64 (k : Int) ∧ Hid (lookN lookI k l0 = .ok (ls.map Prod.snd, l2)) ∧ Hid (EyeAt wr Lo Bd g l2) ∧ Hid (Blk wr gv 26 (txV A k c none 0 0 0 0)) ∧ Hid (InsO wr Z A k c ls) ∧ Hid (w.grownBy wr (some g)) ∧ Hid (Z ≤ wr.heap.size)) (fun iv _ => v0 - (intOf iv).toNat)
  case atStart => exact ⟨0, none, 0, [], l0, by omega, rfl, Lib.hid rfl, HE, HV, Lib.hid ⟨own_nil0 _ _ _ _, (fun p hp => by cases hp), rfl⟩, HG, HZ0⟩
  case round =>
    obtain ⟨k, A, c, ls, l2, hk, rfl, hI, hE, hV, hO, hG, hZw⟩ := hrel
    clear HE HV HG HZ0
    have HI := Lib.hid hI.out; have HE := Lib.hid hE.out; have HV := Lib.hid hV.out; have HO := Lib.hid hO.out; have HG := Lib.hid hG.out; have HZW := Lib.hid hZw.out
    clear hI hE hV hO hG hZw
    rename World => w_
    by_cases hlt : k < v0
    · have HSTEP := Lib.hid (show ∀ x, lookI l2 = .error x → res = .error x from fun x hx => by
        have h1 : lookN lookI (k + 1) l0 = .error x := by rw [lookN_snoc, HI.out]; simp only; rw [hx]
        have h2 := lookN_err h1 (v0 - (k + 1))
        rw [show k + 1 + (v0 - (k + 1)) = v0 by omega] at h2
        rw [HR.out, h2])
      have q1 : IntKind.u64.wrap ((k : Int) + 1) = (k : Int) + 1 := by have := HN16.out; rw [IntKind.wrap_u64]; omega
      have HQ1 := Lib.hid q1
      clear q1
      obtain ⟨rI, hrI⟩ : ∃ r, r = lookI l2 := ⟨_, rfl⟩
      have HRI0 := Lib.hid hrI
      unfold lookI at hrI
      have HRI := Lib.hid hrI
      clear hrI
      have HW := Lib.hid (grownBy_refl w_ (some g))
      obtain ⟨wo, hwo⟩ : ∃ x, x = w_ := ⟨_, rfl⟩
      have HO0 := Lib.hid (show InsO wo Z A k c ls by rw [hwo]; exact HO.out)
      have HV0 := Lib.hid (show Blk wo gv 26 (txV A k c none 0 0 0 0) by rw [hwo]; exact HV.out)
      have HG0 := Lib.hid (show w.grownBy wo (some g) by rw [hwo]; exact HG.out)
      have HW := Lib.hid (show wo.grownBy w_ (some g) by rw [hwo]; exact grownBy_refl _ _)
      have HZW0 := Lib.hid (show Z ≤ wo.heap.size by rw [hwo]; exact HZW.out)
      clear HO HG HZW hwo HV
      go_wp2_with fail
      refine (eid_any _ HE.out).mono ?_
      rintro e w2_ hr_
      obtain ⟨hg_, ⟨x_, hx_, rfl⟩ | ⟨v1, l1, hx_, rfl, hE_⟩⟩ := hr_.get
      · have HX_ := Lib.hid hx_
        have HW_ := Lib.hid (grownBy_trans HW.out hg_)
        clear hr_ hx_ hg_
        go_wp2_with fail
        exact ⟨by first | trivial | rfl, HERR.out x_ _ (HSTEP.out x_ (by rw [← HRI0.out, HRI.out, HX_.out])) (grownBy_trans HG0.out HW_.out)⟩
      have HX1 := Lib.hid hx_
      replace HW := Lib.hid (grownBy_trans HW.out hg_)
      have HRI_ := HRI.out
      rw [hx_] at HRI_
      simp only at HRI_
      replace HRI := Lib.hid HRI_
      clear HRI_
      replace HE := Lib.hid hE_
      try clear hr_
      clear hx_ hE_ hg_
      try clear w_
      rename World => w_
      go_wp2_with fail
      refine (enum_any (most := 15) _ HE.out).mono ?_
      rintro e w2_ hr_
      obtain ⟨hg_, ⟨x_, hx_, rfl⟩ | ⟨v2, l2, hx_, rfl, hE_⟩⟩ := hr_.get
      · have HX_ := Lib.hid hx_
        have HW_ := Lib.hid (grownBy_trans HW.out hg_)
        clear hr_ hx_ hg_
        go_wp2_with fail
        exact ⟨by first | trivial | rfl, HERR.out x_ _ (HSTEP.out x_ (by rw [← HRI0.out, HRI.out, HX_.out])) (grownBy_trans HG0.out HW_.out)⟩
      have HX2 := Lib.hid hx_
      replace HW := Lib.hid (grownBy_trans HW.out hg_)
      have HRI_ := HRI.out
      rw [hx_] at HRI_
      simp only at HRI_
      replace HRI := Lib.hid HRI_
      clear HRI_
      replace HE := Lib.hid hE_
      try clear hr_
      clear hx_ hE_ hg_
      try clear w_
      rename World => w_
      have q2 : IntKind.i64.wrap (v2 : Int) = (v2 : Int) := IntWalk.i64_in _ (by have := numR_le HX2.out; omega)
      have HD := Lib.hid (dig_map (takeR_le HX1.out).1)
      have HDL := Lib.hid (takeR_le HX1.out).1
      have TP := Lib.hid (bt_point (xs := v1.map B) (z := (v2 : Int)) HD.out.len)
      have HPL := Lib.hid (show (v1.map B ++ [Value.int .i64 (v2 : Int)]).length = 33 by have := HD.out.len; simp only [List.length_append, List.length_singleton]; omega)
      have TI := Lib.hid (bt_tin HPL.out)
      have HIL := Lib.hid (show ((v1.map B ++ [Value.int .i64 (v2 : Int)]) ++ [Value.int .u64 0, .slice none 0 0]).length = 35 by have := HPL.out; rw [List.length_append, this]; rfl)
      have HI1 := Lib.hid (show ∀ u ∈ (v1.map B ++ [Value.int .i64 (v2 : Int)]) ++ [Value.int .u64 0, .slice none 0 0], u.oneCell' = true from by
        rw [show (v1.map B ++ [Value.int .i64 (v2 : Int)]) ++ [Value.int .u64 0, .slice none 0 0] = inV (.slice none 0 0) ⟨v1, (v2 : Int), 0, []⟩ from by simp [inV]]
        exact in_one rfl)
      have HSET := Lib.hid (fun (v : Value) (a : Int) (s : List UInt8) => in_set (v := v) (z := (v2 : Int)) (a := a) (s := s) HDL.out)
      obtain ⟨dv, hdv⟩ : ∃ q, q = v1.map B := ⟨_, rfl⟩
      rw [← hdv] at TP HPL TI HIL HI1 HSET ⊢
      clear hdv
      obtain ⟨pv, hpv⟩ : ∃ q, q = dv ++ [Value.int .i64 (v2 : Int)] := ⟨_, rfl⟩
      rw [← hpv] at TP HPL TI HIL HI1 HSET
      clear hpv
      obtain ⟨iz, hiz⟩ : ∃ q, q = pv ++ [Value.int .u64 0, .slice none 0 0] := ⟨_, rfl⟩
      rw [← hiz] at TI HIL HI1 HSET
      clear hiz
      go_wp2_with (first | (with_reducible refine wpl_stop (o := ⟨some 14, _, _, _, _, _⟩) ?_))
      refine stop_go ?_
      refine wpl_build rfl rfl TP.out ?_
      go_wp2_with (first | (with_reducible refine wpl_stop (o := ⟨some 15, _, _, _, _, _⟩) ?_))
      refine stop_go ?_
      refine wpl_build rfl rfl TI.out ?_
      go_wp2_with (first | (with_reducible refine wpl_alloc (o := ⟨some 3, _, _, _, _, _⟩) rfl rfl zero_tinT ?_))
      intro w2_ hb2_ hb_ hsz2_
      have HC_ := Lib.hid hb2_
      have HW_ := Lib.hid (grownBy_grow HW.out hb_)
      have HE_ := Lib.hid (HE.out.grow hb_)
      have HN_ := Lib.hid (show wo.heap.size ≤ w_.heap.size from HW.out.size)
      have HB_ := Lib.hid (show Bd ≤ w_.heap.size by have := HE.out.bd; exact this.2)
      generalize hg_ : w_.heap.size = gi at HC_ HN_ HB_ ⊢
      clear hb2_ hb_ hsz2_ hg_ HW HE
      have HW := HW_; have HE := HE_; have HI_n := HN_; have HI_b := HB_
      clear HW_ HE_ HN_ HB_
      try clear w_
      rename World => w_
      go_wp2_with (first | (with_reducible refine wpl_storeb (o := ⟨none, .store _ _ _, _, _, _, _⟩) rfl rfl row_tin HC_.out rfl rfl (inV_len noIn_ok) HIL.out HI1.out ?_))
      intro w2_ hb2_ hg2_ hsz2_
      have HC_ := Lib.hid hb2_
      have HW_ := Lib.hid (grownBy_new HW.out hg2_ HI_n.out)
      have HE_ := Lib.hid (HE.out.off hg2_ (.inr HI_b.out))
      clear hb2_ hg2_ hsz2_ HW HE 
      have HW := HW_; have HE := HE_; have HC := HC_
      clear HW_ HE_ HC_
      try clear w_
      rename World => w_
      clear q2
      go_wp2_with fail
      refine (enum_any (most := 18446744073709551615) _ HE.out).mono ?_
      rintro e w2_ hr_
      obtain ⟨hg_, ⟨x_, hx_, rfl⟩ | ⟨v3, l3, hx_, rfl, hE_⟩⟩ := hr_.get
      · have HX_ := Lib.hid hx_
        have HW_ := Lib.hid (grownBy_trans HW.out hg_)
        clear hr_ hx_ hg_
        go_wp2_with fail
        exact ⟨by first | trivial | rfl, HERR.out x_ _ (HSTEP.out x_ (by rw [← HRI0.out, HRI.out, HX_.out])) (grownBy_trans HG0.out HW_.out)⟩
      have HX3 := Lib.hid hx_
      replace HW := Lib.hid (grownBy_trans HW.out hg_)
      have HRI_ := HRI.out
      rw [hx_] at HRI_
      simp only at HRI_
      replace HRI := Lib.hid HRI_
      clear HRI_
      replace HC := Lib.hid (Blk.grown HC.out hg_ (fun e => by injection e with e; have := HI_b.out; have h9 := HE.out.bd; omega))
      replace HE := Lib.hid hE_
      try clear hr_
      clear hx_ hE_ hg_
      try clear w_
      rename World => w_
      go_wp2_with (first | (refine wpl_store1 (o := ⟨none, .store _ _ _, _, _, _, _⟩) rfl rfl HC.out rfl rfl (by kernel_rfl) rfl rfl (by rw [HIL.out]; omega) ?_))
      intro w2_ hb2_ hg2_ hsz2_
      have HC_ := Lib.hid hb2_
      have HW_ := Lib.hid (grownBy_new HW.out hg2_ HI_n.out)
      have HE_ := Lib.hid (HE.out.off hg2_ (.inr HI_b.out))
      clear hb2_ hg2_ hsz2_ HW HE 
      have HW := HW_; have HE := HE_; have HC := HC_
      clear HW_ HE_ HC_
      try clear w_
      rename World => w_
      go_wp2_with fail
      refine (etext_any (most := 64) _ HE.out (by omega)).mono ?_
      rintro e w2_ ⟨hg_, ⟨x_, hx_, rfl⟩ | ⟨v4, l4, A5, c5, hx_, rfl, ho_, hc_, hE_⟩⟩
      · have HX_ := Lib.hid hx_
        have HW_ := Lib.hid (grownBy_trans HW.out hg_)
        clear hx_ hg_
        go_wp2_with fail
        exact ⟨by first | trivial | rfl, HERR.out x_ _ (HSTEP.out x_ (by rw [← HRI0.out, HRI.out, HX_.out])) (grownBy_trans HG0.out HW_.out)⟩
      have HO5 := Lib.hid (show w2_.ownsRow Z 5 1 (.slice A5 v4.length c5) v4.length (v4.map B) from own_base ho_ (by have := HW.out.size; have := HZW0.out; omega))
      have HC5 := Lib.hid hc_
      have HA5 := Lib.hid (show ∀ q, A5.map Addr.block = some q → gi < q from fun q hq => by have h1 := own_from ho_ q hq; have := HC.out.lt; omega)
      clear ho_ hc_
      have HX4 := Lib.hid hx_
      replace HW := Lib.hid (grownBy_trans HW.out hg_)
      have HRI_ := HRI.out
      rw [hx_] at HRI_
      simp only at HRI_
      replace HRI := Lib.hid HRI_
      clear HRI_
      replace HC := Lib.hid (Blk.grown HC.out hg_ (fun e => by injection e with e; have := HI_b.out; have h9 := HE.out.bd; omega))
      replace HE := Lib.hid hE_
      try clear hr_
      clear hx_ hE_ hg_
      try clear w_
      rename World => w_
      have HTX := Lib.hid (textR_le HX4.out).1
      go_wp2_with (first | (refine wpl_store1 (o := ⟨none, .store _ _ _, _, _, _, _⟩) rfl rfl HC.out rfl rfl (by kernel_rfl) rfl rfl (by rw [List.length_set, HIL.out]; omega) ?_))
      intro w2_ hb2_ hg2_ hsz2_
      have HC_ := Lib.hid hb2_
      have HW_ := Lib.hid (grownBy_new HW.out hg2_ HI_n.out)
      have HE_ := Lib.hid (HE.out.off hg2_ (.inr HI_b.out))
      have HO5_ := Lib.hid (own_kept HO5.out hg2_ (fun q hq e => by have h1 := HA5.out q (by rw [hq]; rfl); injection e with e; omega))
      clear hb2_ hg2_ hsz2_ HW HE HO5
      have HW := HW_; have HE := HE_; have HC := HC_
      clear HW_ HE_ HC_
      try clear w_
      rename World => w_
      have HO5 := HO5_
      clear HO5_
      have HCI := Lib.hid (show Blk w_ gi 105 (inV (.slice A5 v4.length c5) ⟨v1, (v2 : Int), (v3 : Int), v4⟩) by rw [← HSET.out (.slice A5 v4.length c5) (v3 : Int) v4]; exact HC.out)
      have HIK := Lib.hid (show (⟨v1, (v2 : Int), (v3 : Int), v4⟩ : Inp).ok from ⟨HDL.out, by have := numR_le HX2.out; unfold I64; simp only; omega, by have := numR_le HX3.out; unfold U64; simp only; omega⟩)
      have HIV := Lib.hid (show Cl 35 (inV (.slice A5 v4.length c5) ⟨v1, (v2 : Int), (v3 : Int), v4⟩) from ⟨inV_len HIK.out, in_one rfl⟩)
      obtain ⟨iv, hiv⟩ : ∃ q, q = inV (.slice A5 v4.length c5) ⟨v1, (v2 : Int), (v3 : Int), v4⟩ := ⟨_, rfl⟩
      have HIE := Lib.hid hiv
      rw [← hiv] at HCI HIV
      clear hiv HC HIL HI1 HSET TI TP HPL
      have HV := Lib.hid (HV0.out.grown HW.out (fun e => by injection e with e; exact HQ.out e))
      have HO := Lib.hid (InsO.keep HO0.out (fun b hb hlt => HW.out.block b hlt (fun e => by injection e with e; have := HGV.out; have := HZ.out; omega)))
      have HG := Lib.hid (grownBy_trans HG0.out HW.out)
      have HZW := Lib.hid (Nat.le_trans HZW0.out HW.out.size)
      clear HW HV0 HO0 HG0
      have c1 := HV.out.at_ (i := 0) rfl
      go_wp2_with (first | (with_reducible refine wpl_loadb (o := ⟨some 24, _, _, _, _, _⟩) rfl rfl row_tin HCI.out rfl HIV.out.len ?_) | (refine wpl_row1 (o := ⟨some 25, .buildSlice _ _ _, _, _, _, _⟩) rfl rfl el_tin (by first | rfl | (go_simp; done)) HIV.out.len (by omega) ?_))
      intro w2_ hb2_ hb_ hsz2_
      have HSX := Lib.hid (show Sl w2_ w2_.heap.size 35 (some ⟨w_.heap.size, 0, none⟩) 1 iv from hb2_.sl (by rw [HIV.out.len]))
      generalize w_.heap.size = gx at HSX ⊢
      have HV_ := Lib.hid (HV.out.grow hb_); have HE_ := Lib.hid (HE.out.grow hb_); have HG_ := Lib.hid (grownBy_grow HG.out hb_); have HO_ := Lib.hid (HO.out.keep (fun b _ hb => hb_.block b hb)); have HO5_ := Lib.hid (own_below HO5.out hb_); have HZW_ := Lib.hid (Nat.le_trans HZW.out hb_.size)
      clear hb2_ hb_ hsz2_ c1 HV HE HG HO HO5 HZW HCI
      have HV := HV_; have HE := HE_; have HG := HG_; have HO := HO_; have HO5 := HO5_; have HZW := HZW_
      clear HV_ HE_ HG_ HO_ HO5_ HZW_
      try clear w_
      rename World => w_
      have hn16 := HN16.out
      go_wp2_with (at_builtin; refine wpl_apps rfl rfl el_tin HO.out.1 rfl HSX.out rfl HIV.out.one (by omega) (by omega) HZW.out ?_)
      intro A4 c4 w2_ ho_ hg_ hA_
      clear hn16
      have hne_ : ∀ q, A.map Addr.block = some q → Z ≤ q := own_from HO.out.1
      have HV_ := Lib.hid (HV.out.grown hg_ (fun e => by have h1 := hne_ _ e.symm; have := HZ.out; omega))
      have HE_ := Lib.hid (HE.out.row hg_ hne_ HBZ.out)
      have HG_ := Lib.hid (grownBy_row HG.out hg_ hne_ (by have := HN.out; have := HZ.out; omega))
      have HO_ := Lib.hid (show InsO w2_ Z A4 (k + 1) c4 (ls ++ [(.slice A5 v4.length c5, ⟨v1, (v2 : Int), (v3 : Int), v4⟩)]) from InsO.snoc HO.out hg_ (by rw [← HIE.out]; exact ho_) ⟨A5, c5, rfl, HC5.out, HO5.out⟩ HIK.out)
      have HZW_ := Lib.hid (Nat.le_trans HZW.out hg_.size)
      clear ho_ hg_ hA_ hne_ HV HE HG HO HO5 HZW HSX
      have HV := HV_; have HE := HE_; have HG := HG_; have HO := HO_; have HZW := HZW_
      clear HV_ HE_ HG_ HO_ HZW_
      try clear w_
      rename World => w_
      go_wp2_with (first | (refine wpl_store1 (o := ⟨none, .store _ _ _, _, _, _, _⟩) rfl rfl HV.out rfl rfl (by kernel_rfl) rfl rfl (by simp [txV]) ?_))
      intro w2_ hb2_ hg2_ hsz2_
      have HV_ := Lib.hid (show Blk w2_ gv 26 (txV A4 (k + 1) c4 none 0 0 0 0) from hb2_)
      have HE_ := Lib.hid (HE.out.off hg2_ (.inr HL.out))
      have HG_ := Lib.hid (grownBy_new HG.out hg2_ HN.out)
      have HO_ := Lib.hid (HO.out.keep (fun b hb hlt => hg2_.block b hlt (fun e => by injection e with e; have := HZ.out; omega)))
      have HZW_ := Lib.hid (Nat.le_trans HZW.out hg2_.size)
      have HI_ := Lib.hid (show lookN lookI (k + 1) l0 = .ok ((ls ++ [((.slice A5 v4.length c5 : Value), (⟨v1, (v2 : Int), (v3 : Int), v4⟩ : Inp))]).map Prod.snd, l4) by rw [lookN_snoc, HI.out]; simp only; rw [← HRI0.out, HRI.out]; simp)
      clear hb2_ hg2_ hsz2_
      have q1 := HQ1.out
      go_wp2_with fail
      go_roundw
      all_goals clear q1
      case rel => exact ⟨k + 1, A4, c4, _, l4, by omega, by first | go_num | simp | rfl, HI_, HE_, HV_, HO_, HG_, HZW_⟩
      case measure => simp [intOf]; omega
    · obtain rfl : k = v0 := by omega
      have HR_ := HR.out
      rw [HI.out] at HR_
      simp only at HR_
      replace HR := Lib.hid HR_
      clear HR_
      go_wp2_with fail
      refine (enum_any (most := 16) _ HE.out).mono ?_
      rintro e w2_ hr_
      obtain ⟨hg_, ⟨x_, hx_, rfl⟩ | ⟨vm, lm, hx_, rfl, hE_⟩⟩ := hr_.get
      · have HX_ := Lib.hid hx_
        have HG_ := Lib.hid (grownBy_trans HG.out hg_)
        clear hr_ hx_ hg_
        go_wp2_with fail
        exact ⟨by first | trivial | rfl, HERR.out x_ _ (by rw [HR.out, HX_.out]) HG_.out⟩
      replace HO := Lib.hid (HO.out.keep (fun b hb hlt => hg_.block b hlt (fun e => by injection e with e; have := HGV.out; have := HZ.out; omega)))
      replace HZW := Lib.hid (Nat.le_trans HZW.out hg_.size)
      have HXm := Lib.hid hx_
      replace HG := Lib.hid (grownBy_trans HG.out hg_)
      have HR_ := HR.out
      rw [hx_] at HR_
      simp only at HR_
      replace HR := Lib.hid HR_
      clear HR_
      replace HV := Lib.hid (Blk.grown HV.out hg_ (fun e => by injection e with e; have := HQ.out; omega))
      replace HE := Lib.hid hE_
      try clear hr_
      clear hx_ hE_ hg_
      try clear w_
      rename World => w_
      have HM16 := Lib.hid (numR_le HXm.out).1
      obtain ⟨wz, hwz⟩ : ∃ x, x = w_ := ⟨_, rfl⟩
      obtain ⟨Z2, hZ2⟩ : ∃ z, z = wz.heap.size := ⟨_, rfl⟩
      have HZ2 := Lib.hid hZ2
      have HOZ := Lib.hid (show InsO wz Z A k c ls by rw [hwz]; exact HO.out)
      have HZZ := Lib.hid (show Z ≤ Z2 by rw [hZ2, hwz]; exact HZW.out)
      have HKZ := Lib.hid (show ∀ b, Z ≤ b → b < Z2 → w_.heap[b]? = wz.heap[b]? from fun b _ _ => by rw [hwz])
      have HSZ := Lib.hid (show Z2 ≤ w_.heap.size by rw [hZ2, hwz]; exact Nat.le_refl _)
      clear hwz hZ2 HO HZW
      go_wp2_with fail
      go_loopw [31] (fun iv wr => ∃ j : Nat, ∃ A2 c2, ∃ os : List Outp, ∃ l3, j ≤ vm ∧ iv = .int .u64 (j : Int) ∧ Hid (lookN lookO j lm = .ok (os, l3)) ∧ Hid (EyeAt wr Lo Bd g l3) ∧ Hid (Blk wr gv 26 (txV A k c A2 j c2 0 0)) ∧ Hid (OutsO wr Z2 A2 j c2 os) ∧ Hid (w.grownBy wr (some g)) ∧ Hid (∀ b, Z ≤ b → b < Z2 → wr.heap[b]? = wz.heap[b]?) ∧ Hid (Z2 ≤ wr.heap.size)) (fun iv _ => vm - (intOf iv).toNat)
      case atStart => exact ⟨0, none, 0, [], lm, by omega, rfl, Lib.hid rfl, HE, HV, Lib.hid ⟨own_nil0 _ _ _ _, (fun p hp => by cases hp), rfl⟩, HG, HKZ, HSZ⟩
      case round =>
        obtain ⟨j, A2, c2, os, l3, hj, rfl, hI, hE, hV, hO, hG, hK, hZw⟩ := hrel
        clear HE HV HG HKZ HSZ
        have HI := Lib.hid hI.out; have HE := Lib.hid hE.out; have HV := Lib.hid hV.out; have HO := Lib.hid hO.out; have HG := Lib.hid hG.out; have HKZ := Lib.hid hK.out; have HSZ := Lib.hid hZw.out
        clear hI hE hV hO hG hK hZw
        rename World => w_
        by_cases hlt : j < vm
        · have HSTEP := Lib.hid (show ∀ x, lookO l3 = .error x → res = .error x from fun x hx => by
            have h1 : lookN lookO (j + 1) lm = .error x := by rw [lookN_snoc, HI.out]; simp only; rw [hx]
            have h2 := lookN_err h1 (vm - (j + 1))
            rw [show j + 1 + (vm - (j + 1)) = vm by omega] at h2
            rw [HR.out, h2])
          have q1 : IntKind.u64.wrap ((j : Int) + 1) = (j : Int) + 1 := by have := HM16.out; rw [IntKind.wrap_u64]; omega
          have HQ1 := Lib.hid q1
          clear q1
          obtain ⟨rI, hrI⟩ : ∃ r, r = lookO l3 := ⟨_, rfl⟩
          have HRI0 := Lib.hid hrI
          unfold lookO at hrI
          have HRI := Lib.hid hrI
          clear hrI
          obtain ⟨wo, hwo⟩ : ∃ x, x = w_ := ⟨_, rfl⟩
          have HO0 := Lib.hid (show OutsO wo Z2 A2 j c2 os by rw [hwo]; exact HO.out)
          have HV0 := Lib.hid (show Blk wo gv 26 (txV A k c A2 j c2 0 0) by rw [hwo]; exact HV.out)
          have HG0 := Lib.hid (show w.grownBy wo (some g) by rw [hwo]; exact HG.out)
          have HW := Lib.hid (show wo.grownBy w_ (some g) by rw [hwo]; exact grownBy_refl _ _)
          have HZW0 := Lib.hid (show Z2 ≤ wo.heap.size by rw [hwo]; exact HSZ.out)
          have HKZ0 := Lib.hid (show ∀ b, Z ≤ b → b < Z2 → wo.heap[b]? = wz.heap[b]? by rw [hwo]; exact HKZ.out)
          clear HO HG HKZ HSZ hwo HV
          go_wp2_with fail
          refine (eid_any _ HE.out).mono ?_
          rintro e w2_ hr_
          obtain ⟨hg_, ⟨x_, hx_, rfl⟩ | ⟨v1, l1, hx_, rfl, hE_⟩⟩ := hr_.get
          · have HX_ := Lib.hid hx_
            have HW_ := Lib.hid (grownBy_trans HW.out hg_)
            clear hr_ hx_ hg_
            go_wp2_with fail
            exact ⟨by first | trivial | rfl, HERR.out x_ _ (HSTEP.out x_ (by rw [← HRI0.out, HRI.out, HX_.out])) (grownBy_trans HG0.out HW_.out)⟩
          have HX1 := Lib.hid hx_
          replace HW := Lib.hid (grownBy_trans HW.out hg_)
          have HRI_ := HRI.out
          rw [hx_] at HRI_
          simp only at HRI_
          replace HRI := Lib.hid HRI_
          clear HRI_
          replace HE := Lib.hid hE_
          try clear hr_
          clear hx_ hE_ hg_
          try clear w_
          rename World => w_
          have HD := Lib.hid (dig_map (takeR_le HX1.out).1)
          have HDL := Lib.hid (takeR_le HX1.out).1
          have TO := Lib.hid (bt_tout (xs := v1.map B) HD.out.len)
          have HIL := Lib.hid (show (v1.map B ++ [Value.int .u64 0]).length = 33 by have := HD.out.len; simp only [List.length_append, List.length_singleton]; omega)
          have HI1 := Lib.hid (show ∀ u ∈ v1.map B ++ [Value.int .u64 0], u.oneCell' = true from out_one (o := ⟨v1, 0⟩))
          have HSET := Lib.hid (fun (a : Int) => out_set (a := a) HDL.out)
          obtain ⟨dv, hdv⟩ : ∃ q, q = v1.map B := ⟨_, rfl⟩
          rw [← hdv] at TO HIL HI1 HSET ⊢
          clear hdv
          obtain ⟨iz, hiz⟩ : ∃ q, q = dv ++ [Value.int .u64 0] := ⟨_, rfl⟩
          rw [← hiz] at TO HIL HI1 HSET
          clear hiz
          go_wp2_with (first | (with_reducible refine wpl_stop (o := ⟨some 35, _, _, _, _, _⟩) ?_))
          refine stop_go ?_
          refine wpl_build rfl rfl TO.out ?_
          go_wp2_with (first | (with_reducible refine wpl_alloc (o := ⟨some 4, _, _, _, _, _⟩) rfl rfl zero_toutT ?_))
          intro w2_ hb2_ hb_ hsz2_
          have HC_ := Lib.hid hb2_
          have HW_ := Lib.hid (grownBy_grow HW.out hb_)
          have HE_ := Lib.hid (HE.out.grow hb_)
          have HN_ := Lib.hid (show wo.heap.size ≤ w_.heap.size from HW.out.size)
          have HB_ := Lib.hid (show Bd ≤ w_.heap.size by have := HE.out.bd; exact this.2)
          generalize hg_ : w_.heap.size = gi at HC_ HN_ HB_ ⊢
          clear hb2_ hb_ hsz2_ hg_ HW HE
          have HW := HW_; have HE := HE_; have HI_n := HN_; have HI_b := HB_
          clear HW_ HE_ HN_ HB_
          try clear w_
          rename World => w_
          go_wp2_with (first | (with_reducible refine wpl_storeb (o := ⟨none, .store _ _ _, _, _, _, _⟩) rfl rfl row_tout HC_.out rfl rfl (outV_len noOut_ok) HIL.out HI1.out ?_))
          intro w2_ hb2_ hg2_ hsz2_
          have HC_ := Lib.hid hb2_
          have HW_ := Lib.hid (grownBy_new HW.out hg2_ HI_n.out)
          have HE_ := Lib.hid (HE.out.off hg2_ (.inr HI_b.out))
          clear hb2_ hg2_ hsz2_ HW HE 
          have HW := HW_; have HE := HE_; have HC := HC_
          clear HW_ HE_ HC_
          try clear w_
          rename World => w_
          go_wp2_with fail
          refine (enum_any (most := 18446744073709551615) _ HE.out).mono ?_
          rintro e w2_ hr_
          obtain ⟨hg_, ⟨x_, hx_, rfl⟩ | ⟨v3, l3, hx_, rfl, hE_⟩⟩ := hr_.get
          · have HX_ := Lib.hid hx_
            have HW_ := Lib.hid (grownBy_trans HW.out hg_)
            clear hr_ hx_ hg_
            go_wp2_with fail
            exact ⟨by first | trivial | rfl, HERR.out x_ _ (HSTEP.out x_ (by rw [← HRI0.out, HRI.out, HX_.out])) (grownBy_trans HG0.out HW_.out)⟩
          have HX3 := Lib.hid hx_
          replace HW := Lib.hid (grownBy_trans HW.out hg_)
          have HRI_ := HRI.out
          rw [hx_] at HRI_
          simp only at HRI_
          replace HRI := Lib.hid HRI_
          clear HRI_
          replace HC := Lib.hid (Blk.grown HC.out hg_ (fun e => by injection e with e; have := HI_b.out; have h9 := HE.out.bd; omega))
          replace HE := Lib.hid hE_
          try clear hr_
          clear hx_ hE_ hg_
          try clear w_
          rename World => w_
          go_wp2_with (first | (refine wpl_store1 (o := ⟨none, .store _ _ _, _, _, _, _⟩) rfl rfl HC.out rfl rfl (by kernel_rfl) rfl rfl (by rw [HIL.out]; omega) ?_))
          intro w2_ hb2_ hg2_ hsz2_
          have HC_ := Lib.hid hb2_
          have HW_ := Lib.hid (grownBy_new HW.out hg2_ HI_n.out)
          have HE_ := Lib.hid (HE.out.off hg2_ (.inr HI_b.out))
          clear hb2_ hg2_ hsz2_ HW HE 
          have HW := HW_; have HE := HE_; have HC := HC_
          clear HW_ HE_ HC_
          try clear w_
          rename World => w_
          have HCI := Lib.hid (show Blk w_ gi 31 (outV ⟨v1, (v3 : Int)⟩) by rw [← HSET.out (v3 : Int)]; exact HC.out)
          have HIK := Lib.hid (show (⟨v1, (v3 : Int)⟩ : Outp).ok from ⟨HDL.out, by have := numR_le HX3.out; unfold U64; simp only; omega⟩)
          have HIV := Lib.hid (show Cl 33 (outV ⟨v1, (v3 : Int)⟩) from ⟨outV_len HIK.out, out_one⟩)
          obtain ⟨iv, hiv⟩ : ∃ q, q = outV ⟨v1, (v3 : Int)⟩ := ⟨_, rfl⟩
          have HIE := Lib.hid hiv
          rw [← hiv] at HCI HIV
          clear hiv HC HIL HI1 HSET TO
          have HV := Lib.hid (HV0.out.grown HW.out (fun e => by injection e with e; exact HQ.out e))
          have HO := Lib.hid (OutsO.keep HO0.out (fun b hb hlt => HW.out.block b hlt (fun e => by injection e with e; have := HGV.out; have := HZ.out; have := HZZ.out; omega)))
          have HG := Lib.hid (grownBy_trans HG0.out HW.out)
          have HSZ := Lib.hid (Nat.le_trans HZW0.out HW.out.size)
          have HKZ := Lib.hid (show ∀ b, Z ≤ b → b < Z2 → w_.heap[b]? = wz.heap[b]? from fun b h1 h2 => (HW.out.block b (by have := HZW0.out; omega) (fun e => by injection e with e; have := HGV.out; have := HZ.out; omega)).trans (HKZ0.out b h1 h2))
          clear HW HV0 HO0 HG0 HKZ0
          have c1 := HV.out.at_ (i := 1) rfl
          go_wp2_with (first | (with_reducible refine wpl_loadb (o := ⟨some 41, _, _, _, _, _⟩) rfl rfl row_tout HCI.out rfl HIV.out.len ?_) | (refine wpl_row1 (o := ⟨some 42, .buildSlice _ _ _, _, _, _, _⟩) rfl rfl el_tout (by first | rfl | (go_simp; done)) HIV.out.len (by omega) ?_))
          intro w2_ hb2_ hb_ hsz2_
          have HSX := Lib.hid (show Sl w2_ w2_.heap.size 33 (some ⟨w_.heap.size, 0, none⟩) 1 iv from hb2_.sl (by rw [HIV.out.len]))
          generalize w_.heap.size = gx at HSX ⊢
          have HV_ := Lib.hid (HV.out.grow hb_); have HE_ := Lib.hid (HE.out.grow hb_); have HG_ := Lib.hid (grownBy_grow HG.out hb_); have HO_ := Lib.hid (HO.out.keep (fun b _ hb => hb_.block b hb)); have HKZ_ := Lib.hid (show ∀ b, Z ≤ b → b < Z2 → w2_.heap[b]? = wz.heap[b]? from fun b h1 h2 => (hb_.block b (by have := HSZ.out; omega)).trans (HKZ.out b h1 h2)); have HSZ_ := Lib.hid (Nat.le_trans HSZ.out hb_.size)
          clear hb2_ hb_ hsz2_ c1 HV HE HG HO HKZ HSZ HCI
          have HV := HV_; have HE := HE_; have HG := HG_; have HO := HO_; have HKZ := HKZ_; have HSZ := HSZ_
          clear HV_ HE_ HG_ HO_ HKZ_ HSZ_
          try clear w_
          rename World => w_
          have hn16 := HM16.out
          go_wp2_with (at_builtin; refine wpl_apps rfl rfl el_tout HO.out.1 rfl HSX.out rfl HIV.out.one (by omega) (by omega) HSZ.out ?_)
          intro A4 c4 w2_ ho_ hg_ hA_
          clear hn16
          have hne_ : ∀ q, A2.map Addr.block = some q → Z2 ≤ q := own_from HO.out.1
          have HV_ := Lib.hid (HV.out.grown hg_ (fun e => by have h1 := hne_ _ e.symm; have := HZ.out; have := HZZ.out; omega))
          have HE_ := Lib.hid (HE.out.row hg_ hne_ (by have := HBZ.out; have := HZZ.out; omega))
          have HG_ := Lib.hid (grownBy_row HG.out hg_ hne_ (by have := HN.out; have := HZ.out; have := HZZ.out; omega))
          have HO_ := Lib.hid (show OutsO w2_ Z2 A4 (j + 1) c4 (os ++ [⟨v1, (v3 : Int)⟩]) from OutsO.snoc HO.out (by rw [← HIE.out]; exact ho_) HIK.out)
          have HKZ_ := Lib.hid (show ∀ b, Z ≤ b → b < Z2 → w2_.heap[b]? = wz.heap[b]? from fun b h1 h2 => (hg_.block b (by have := HSZ.out; omega) (fun e => by have h3 := hne_ _ e.symm; omega)).trans (HKZ.out b h1 h2))
          have HSZ_ := Lib.hid (Nat.le_trans HSZ.out hg_.size)
          clear ho_ hg_ hA_ hne_ HV HE HG HO HKZ HSZ HSX
          have HV := HV_; have HE := HE_; have HG := HG_; have HO := HO_; have HKZ := HKZ_; have HSZ := HSZ_
          clear HV_ HE_ HG_ HO_ HKZ_ HSZ_
          try clear w_
          rename World => w_
          go_wp2_with (first | (refine wpl_store1 (o := ⟨none, .store _ _ _, _, _, _, _⟩) rfl rfl HV.out rfl rfl (by kernel_rfl) rfl rfl (by simp [txV]) ?_))
          intro w2_ hb2_ hg2_ hsz2_
          have HV_ := Lib.hid (show Blk w2_ gv 26 (txV A k c A4 (j + 1) c4 0 0) from hb2_)
          have HE_ := Lib.hid (HE.out.off hg2_ (.inr HL.out))
          have HG_ := Lib.hid (grownBy_new HG.out hg2_ HN.out)
          have HO_ := Lib.hid (HO.out.keep (fun b hb hlt => hg2_.block b hlt (fun e => by injection e with e; have := HZ.out; have := HZZ.out; omega)))
          have HKZ_ := Lib.hid (show ∀ b, Z ≤ b → b < Z2 → w2_.heap[b]? = wz.heap[b]? from fun b h1 h2 => (hg2_.block b (by have := HSZ.out; omega) (fun e => by injection e with e; have := HZ.out; omega)).trans (HKZ.out b h1 h2))
          have HSZ_ := Lib.hid (Nat.le_trans HSZ.out hg2_.size)
          have HI_ := Lib.hid (show lookN lookO (j + 1) lm = .ok (os ++ [(⟨v1, (v3 : Int)⟩ : Outp)], l3) by rw [lookN_snoc, HI.out]; simp only; rw [← HRI0.out, HRI.out])
          clear hb2_ hg2_ hsz2_
          have q1 := HQ1.out
          go_wp2_with fail
          go_roundw
          all_goals clear q1
          case rel => exact ⟨j + 1, A4, c4, _, _, by omega, by first | go_num | simp | rfl, HI_, HE_, HV_, HO_, HG_, HKZ_, HSZ_⟩
          case measure => simp [intOf]; omega
        · obtain rfl : j = vm := by omega
          have HR_ := HR.out
          rw [HI.out] at HR_
          simp only at HR_
          replace HR := Lib.hid HR_
          clear HR_
          have HOI := Lib.hid (InsO.keep HOZ.out (fun b hb hlt => HKZ.out b hb (by rw [HZ2.out]; exact hlt)))
          clear HKZ HOZ
          go_wp2_with fail
          refine (enum_any (most := 18446744073709551615) _ HE.out).mono ?_
          rintro e w2_ hr_
          obtain ⟨hg_, ⟨x_, hx_, rfl⟩ | ⟨vf, lf, hx_, rfl, hE_⟩⟩ := hr_.get
          · have HX_ := Lib.hid hx_
            have HG_ := Lib.hid (grownBy_trans HG.out hg_)
            clear hr_ hx_ hg_
            go_wp2_with fail
            exact ⟨by first | trivial | rfl, HERR.out x_ _ (by rw [HR.out, HX_.out]) HG_.out⟩
          replace HOI := Lib.hid (HOI.out.keep (fun b hb hlt => hg_.block b hlt (fun e => by injection e with e; have := HGV.out; have := HZ.out; have := HZZ.out; omega)))
          replace HO := Lib.hid (HO.out.keep (fun b hb hlt => hg_.block b hlt (fun e => by injection e with e; have := HGV.out; have := HZ.out; have := HZZ.out; omega)))
          have HXf := Lib.hid hx_
          replace HG := Lib.hid (grownBy_trans HG.out hg_)
          have HR_ := HR.out
          rw [hx_] at HR_
          simp only at HR_
          replace HR := Lib.hid HR_
          clear HR_
          replace HV := Lib.hid (Blk.grown HV.out hg_ (fun e => by injection e with e; have := HQ.out; omega))
          replace HE := Lib.hid hE_
          try clear hr_
          clear hx_ hE_ hg_
          try clear w_
          rename World => w_
          go_wp2_with (first | (refine wpl_store1 (o := ⟨none, .store _ _ _, _, _, _, _⟩) rfl rfl HV.out rfl rfl (by kernel_rfl) rfl rfl (by simp [txV]) ?_))
          intro w2_ hb2_ hg2_ hsz2_
          have HV_ := Lib.hid (show Blk w2_ gv 26 (txV A k c A2 j c2 (vf : Int) 0) from hb2_)
          have HE_ := Lib.hid (HE.out.off hg2_ (.inr HL.out))
          have HG_ := Lib.hid (grownBy_new HG.out hg2_ HN.out)
          replace HOI := Lib.hid (HOI.out.keep (fun b hb hlt => hg2_.block b hlt (fun e => by injection e with e; have := HZ.out; have := HZZ.out; omega)))
          replace HO := Lib.hid (HO.out.keep (fun b hb hlt => hg2_.block b hlt (fun e => by injection e with e; have := HZ.out; have := HZZ.out; omega)))
          clear hb2_ hg2_ hsz2_ HV HE HG
          have HV := HV_; have HE := HE_; have HG := HG_
          clear HV_ HE_ HG_
          try clear w_
          rename World => w_
          go_wp2_with fail
          refine (enum_any (most := 1099511627776) _ HE.out).mono ?_
          rintro e w2_ hr_
          obtain ⟨hg_, ⟨x_, hx_, rfl⟩ | ⟨ve, le, hx_, rfl, hE_⟩⟩ := hr_.get
          · have HX_ := Lib.hid hx_
            have HG_ := Lib.hid (grownBy_trans HG.out hg_)
            clear hr_ hx_ hg_
            go_wp2_with fail
            exact ⟨by first | trivial | rfl, HERR.out x_ _ (by rw [HR.out, HX_.out]) HG_.out⟩
          replace HOI := Lib.hid (HOI.out.keep (fun b hb hlt => hg_.block b hlt (fun e => by injection e with e; have := HGV.out; have := HZ.out; have := HZZ.out; omega)))
          replace HO := Lib.hid (HO.out.keep (fun b hb hlt => hg_.block b hlt (fun e => by injection e with e; have := HGV.out; have := HZ.out; have := HZZ.out; omega)))
          have HXe := Lib.hid hx_
          replace HG := Lib.hid (grownBy_trans HG.out hg_)
          have HR_ := HR.out
          rw [hx_] at HR_
          simp only at HR_
          replace HR := Lib.hid HR_
          clear HR_
          replace HV := Lib.hid (Blk.grown HV.out hg_ (fun e => by injection e with e; have := HQ.out; omega))
          replace HE := Lib.hid hE_
          try clear hr_
          clear hx_ hE_ hg_
          try clear w_
          rename World => w_
          have q2 : IntKind.i64.wrap (ve : Int) = (ve : Int) := IntWalk.i64_in _ (by have := numR_le HXe.out; omega)
          go_wp2_with (first | (refine wpl_store1 (o := ⟨none, .store _ _ _, _, _, _, _⟩) rfl rfl HV.out rfl rfl (by kernel_rfl) rfl rfl (by simp [txV]) ?_))
          intro w2_ hb2_ hg2_ hsz2_
          have HV_ := Lib.hid (show Blk w2_ gv 26 (txV A k c A2 j c2 (vf : Int) (ve : Int)) from hb2_)
          have HE_ := Lib.hid (HE.out.off hg2_ (.inr HL.out))
          have HG_ := Lib.hid (grownBy_new HG.out hg2_ HN.out)
          replace HOI := Lib.hid (HOI.out.keep (fun b hb hlt => hg2_.block b hlt (fun e => by injection e with e; have := HZ.out; have := HZZ.out; omega)))
          replace HO := Lib.hid (HO.out.keep (fun b hb hlt => hg2_.block b hlt (fun e => by injection e with e; have := HZ.out; have := HZZ.out; omega)))
          clear hb2_ hg2_ hsz2_ HV HE HG
          have HV := HV_; have HE := HE_; have HG := HG_
          clear HV_ HE_ HG_
          try clear w_
          rename World => w_
          clear q2
          have HTC := Lib.hid (txV_cl (A := A) (n := k) (c := c) (A2 := A2) (n2 := j) (c2 := c2) (fee := (vf : Int)) (ex := (ve : Int)))
          obtain ⟨tv, htv⟩ : ∃ q, q = txV A k c A2 j c2 (vf : Int) (ve : Int) := ⟨_, rfl⟩
          have HTV := Lib.hid htv
          rw [← htv] at HV HTC
          clear htv
          go_wp2_with (first | (with_reducible refine wpl_loadb (o := ⟨some 53, _, _, _, _, _⟩) rfl rfl row_tx HV.out rfl HTC.out.len ?_) | (with_reducible refine wpl_storeb (o := ⟨none, .store _ _ _, _, _, _, _⟩) rfl rfl row_tx HV.out rfl rfl HTC.out.len HTC.out.len HTC.out.one ?_))
          intro w2_ hb2_ hg2_ hsz2_
          have HG_ := Lib.hid (grownBy_new HG.out hg2_ HN.out)
          have HE_ := Lib.hid (HE.out.off hg2_ (.inr HL.out))
          have HV_ := Lib.hid hb2_
          replace HOI := Lib.hid (HOI.out.keep (fun b hb hlt => hg2_.block b hlt (fun e => by injection e with e; have := HZ.out; have := HZZ.out; omega)))
          replace HO := Lib.hid (HO.out.keep (fun b hb hlt => hg2_.block b hlt (fun e => by injection e with e; have := HZ.out; have := HZZ.out; omega)))
          clear hb2_ hg2_ hsz2_ HG HE HV
          go_wp2_with fail
          refine ret_cell rfl row_tx HV_.out rfl HTC.out.len rfl ?_
          exact ⟨HG_.out, .inr ⟨⟨ls.map Prod.snd, os, (vf : Int), (ve : Int)⟩, le, A, k, c, A2, j, c2, by rw [← HRES.out, HR.out], by rw [HTV.out], ⟨⟨ls, rfl, HOI.out.base (by have := HN.out; have := HZ.out; omega)⟩, HO.out.base (by have := HN.out; have := HZ.out; have := HZZ.out; omega)⟩, HE_.out⟩⟩
end Go.Proofs.Ytobmldegjajocaa
/- The contract of field.Read, said to the block: what a reading function laid stays. -/
namespace Go.Proofs.Ytobmldegjajocaa
open Go.RowKit Go.Shelf
set_option linter.unusedVariables false
set_option maxRecDepth 100000 in
set_option maxHeartbeats 1000000 in
theorem fread2_any (A : Option Addr) (n c : Nat) (bs : List UInt8) (F : FuncId) (cap : Array Value) (res : Except Nat (List UInt8)) (Q : World → Prop) (w : World) (hs : Sl w w.heap.size 1 A n (bs.map B)) (hn : n ≤ 1000000)
    (hcf : ∀ (args : Array Value) (w : World), (callFunc F args).run Try.prog w = .ok (.enter F args) w)
    (hdo : ∀ w1 Bd g, Grow w w1 → w.heap.size ≤ g → EyeAt w1 (w.heap.size + 1) Bd g bs → Calls Try.prog F (#[.pointer (some ⟨g, 0, none⟩)] ++ cap) w1 fun e w2 => Q w2 ∧ w1.heap.size ≤ w2.heap.size ∧ w2.heap[w.heap.size]? = w1.heap[w.heap.size]? ∧
      ((∃ x, res = .error x ∧ e = .panicked (brk x)) ∨ (∃ l', res = .ok l' ∧ e = .returned (.tuple #[]) ∧ EyeAt w2 (w.heap.size + 1) Bd g l'))) :
    Calls Try.prog 36 #[.slice A n c, .func (.func F) #[] cap] w fun e w' => e = .returned (.int .i64 (eyeErr res : Int)) ∧ ∃ w2, Q w2 ∧ w2.grownBy w' (some w.heap.size) := by
  have HS := Lib.hid hs
  have HDO := Lib.hid hdo
  clear hs hdo
  have hmf : ∀ (fn : Fn) (first cap : Array Value) (w : World), (Instr.makeFunc fn first cap).run Try.prog w = .ok (.func fn first cap) w := fun _ _ _ _ => rfl
  obtain ⟨ge, hge⟩ : ∃ ge, ge = w.heap.size := ⟨_, rfl⟩
  have HGE := Lib.hid hge
  clear hge
  go_enter_defers Try.func36, Try.ntmps36
  go_wp2_with fail
  generalize hw1 : World.alloc w _ = w1
  obtain ⟨hX, hb, hs⟩ := alloc_eq hw1
  rw [← HGE.out] at hX hs ⊢
  have HE1 := Lib.hid hX
  have HG1 := Lib.hid (show Grow w w1 from hb)
  have HZ1 := Lib.hid hs
  have HS1 := Lib.hid ((HS.out.below HG1.out).more HG1.out.size)
  clear hX hb hs hw1
  refine (bclone_any A n c bs _ HS1.out hn).mono ?_
  rintro e w2 ⟨A2, c2, rfl, ho, hc2, hb2⟩
  have hbn : bs.length = n := by have := HS.out.len; simpa using this
  have HO2 := Lib.hid ho
  have HC2 := Lib.hid hc2
  have HE2 := Lib.hid (HE1.out.grow hb2)
  have HG2 := Lib.hid (HG1.out.grow' hb2)
  have HZ2 := Lib.hid (show ge + 1 ≤ w2.heap.size by have := hb2.size; have := HZ1.out; omega)
  clear ho hc2 hb2 HE1 HG1 HS1
  have go1 : ∀ (R : Ending → World → Prop) (w3 : World) (g : Nat), g = w2.heap.size → w3 = w2.alloc (.cells #[.slice A2 n c2] 130) →
      (∀ e w4, (Q w4 ∧ w3.heap.size ≤ w4.heap.size ∧ Blk w4 ge 37 [.int .i64 0] ∧ ((∃ x, res = .error x ∧ e = .panicked (brk x)) ∨ (∃ l', res = .ok l' ∧ e = .returned (.tuple #[]) ∧ EyeAt w4 (ge + 1) w3.heap.size g l'))) → R e w4) → Calls Try.prog F (#[.pointer (some ⟨g, 0, none⟩)] ++ cap) w3 R := by
    intro R w3 g hg hw3 hR
    obtain ⟨hX, hb, hs⟩ := alloc_eq hw3.symm
    have hE : EyeAt w3 (w.heap.size + 1) w3.heap.size g bs := by
      refine ⟨A2, c2, by rw [hbn, hg]; exact hX, by rw [hbn]; exact ((Sl.of_own HO2.out).below hb).more hb.size, by rw [hbn]; exact HC2.out, ?_, by omega, Nat.le_refl _, fun b hA => ?_⟩
      · have := HZ2.out; have := HGE.out; omega
      · have h1 := own_from HO2.out b hA
        have h2 := own_lt HO2.out b hA
        have := HZ1.out; have := HGE.out
        exact ⟨by omega, by omega⟩
    refine (HDO.out w3 _ g (HG2.out.grow' hb) (by have := HZ2.out; have := HGE.out; omega) hE).mono ?_
    rintro e w4 ⟨hQ, hsz, hk, hr⟩
    refine hR e w4 ⟨hQ, hsz, ?_, ?_⟩
    · unfold Blk
      rw [← HGE.out] at hk
      rw [hk]; exact HE2.out.grow hb
    · rw [← HGE.out] at hr; exact hr
  have GO := Lib.hid go1
  clear go1
  go_wp2_with fail
  refine GO.out _ _ _ rfl rfl ?_
  rintro e w4 ⟨hQ, hsz, hb4, ⟨x, hx, rfl⟩ | ⟨l', hl, rfl, hE⟩⟩
  · have HQ := Lib.hid hQ; have HB4 := Lib.hid hb4
    have HX := Lib.hid hx
    have HZ4 := Lib.hid (show ge < w4.heap.size from hb4.lt)
    clear hQ hb4 hsz hx
    go_wp2_with fail
    refine leaves_cons (f := 68) (args := #[.pointer (some ⟨ge, 0, none⟩)]) (by first | simp | decide) (by first | rfl | simp [go_sem]) ?_
    refine (catch_panicking ge x _ ⟨_, HB4.out⟩).mono ?_
    rintro e u' w5 ⟨rfl, rfl, hb5, hg5⟩
    have c5 := hb5.at_ (i := 0) rfl
    have hfin : eyeErr res = x := by rw [HX.out]; rfl
    simp only [Leaves, settle, List.dropWhile]
    refine ⟨_, door_cell c5, ?_, w4, HQ.out, ?_⟩
    · rw [hfin]
    · rw [← HGE.out]; exact hg5
  · have HQ := Lib.hid hQ; have HB4 := Lib.hid hb4; have HL := Lib.hid hl; have HE := Lib.hid hE
    clear hQ hb4 hsz hl hE
    go_wp2_with fail
    refine (eleft_any _ HE.out).mono ?_
    rintro e w5 ⟨rfl, rfl⟩
    have c0 := HB4.out.at_ (i := 0) rfl
    have f0 := HB4.out.frozen 0
    cases l' with
    | nil =>
      have d0 : decide ((0 : Int) < (([] : List UInt8).length : Int)) = false := rfl
      go_wp2_with fail
      refine leaves_cons (f := 68) (args := #[.pointer (some ⟨ge, 0, none⟩)]) (by simp) (by simp [go_sem]) ?_
      refine (catch_idle ge _).mono ?_
      rintro e u' w5 ⟨rfl, rfl, rfl⟩
      have hfin : eyeErr res = 0 := by rw [HL.out]; rfl
      simp only [Leaves, settle]
      refine ⟨_, door_cell (World.cell?_setCell_same _ _ _ c0), ?_, w4, HQ.out, by rw [← HGE.out]; exact grown_set w4 ge 0 _⟩
      first | (rw [hfin]; rfl) | rw [hfin]
    | cons y l2 =>
      have d0 : decide ((0 : Int) < ((y :: l2).length : Int)) = true := by rw [decide_eq_true_eq, List.length_cons]; omega
      go_wp2_with fail
      refine leaves_cons (f := 68) (args := #[.pointer (some ⟨ge, 0, none⟩)]) (by simp) (by simp [go_sem]) ?_
      refine (catch_idle ge _).mono ?_
      rintro e u' w5 ⟨rfl, rfl, rfl⟩
      have hfin : eyeErr res = 3 := by rw [HL.out]; rfl
      simp only [Leaves, settle]
      refine ⟨_, door_cell (World.cell?_setCell_same _ _ _ c0), ?_, w4, HQ.out, by rw [← HGE.out]; exact grown_set w4 ge 0 _⟩
      first | (rw [hfin]; rfl) | rw [hfin]
end Go.Proofs.Ytobmldegjajocaa

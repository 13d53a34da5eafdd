/- The contract of tx.look. Printed by mktlook.py. -/
import Derived.Test.YtphmefhnffoafaaTxReadsB9
import Derived.Test.YtphmefhnffoafaaTxReadsB12
import Derived.Deep.CutRange
set_option linter.unusedSimpArgs false
/- The contract of tx.look. Printed by mktlook.py. -/
namespace Go.Proofs.Ytphmefhnffoafaa
open Go.RowKit Go.Shelf
set_option linter.unusedVariables false
def noIn : Inp := ⟨zeroD, 0, 0, []⟩
def noOut : Outp := ⟨zeroD, 0⟩
theorem noIn_ok : noIn.ok := ⟨by simp [noIn, zeroD], by unfold I64; simp [noIn], by unfold U64; simp [noIn]⟩
theorem noOut_ok : noOut.ok := ⟨by simp [noOut, zeroD], by unfold U64; simp [noOut]⟩
theorem zero_txT : (Try.prog.info? 28).map (·.zero) = some (some (.agg (txV none 0 0 none 0 0 0 0).toArray)) := by kernel_rfl
theorem zero_tinT : (Try.prog.info? 41).map (·.zero) = some (some (.agg (inV (.slice none 0 0) noIn).toArray)) := by kernel_rfl
theorem zero_toutT : (Try.prog.info? 43).map (·.zero) = some (some (.agg (outV noOut).toArray)) := by kernel_rfl
theorem info_tin : (Try.prog.info? 41).map (fun i => (i.zero, i.size, i.bytes)) = some (some (.agg (inV (.slice none 0 0) noIn).toArray), 35, 72) := by kernel_rfl
theorem info_tout : (Try.prog.info? 43).map (fun i => (i.zero, i.size, i.bytes)) = some (some (.agg (outV noOut).toArray), 33, 40) := by kernel_rfl
theorem el_tin : ElemT Try.prog 24 41 35 72 := elemT Try.underlying24 info_tin rfl (by omega)
theorem el_tout : ElemT Try.prog 25 43 33 40 := elemT Try.underlying25 info_tout rfl (by omega)
def ptZ : List Value := zeroD.map B ++ [Value.int .i64 0]
theorem ptZ_len : ptZ.length = 33 := by simp [ptZ, zeroD]
theorem built_point0 (parts : List (Nat × Value)) : Try.prog.built 39 parts = Instr.fill (fun i => (#[(0, 32), (32, 1)] : Array (Nat × Nat))[i]?) ptZ.toArray parts := by kernel_rfl
theorem built_tin0 (parts : List (Nat × Value)) : Try.prog.built 41 parts = Instr.fill (fun i => (#[(0, 33), (33, 1), (34, 1)] : Array (Nat × Nat))[i]?) (inV (.slice none 0 0) noIn).toArray parts := by kernel_rfl
theorem built_tout0 (parts : List (Nat × Value)) : Try.prog.built 43 parts = Instr.fill (fun i => (#[(0, 32), (32, 1)] : Array (Nat × Nat))[i]?) (outV noOut).toArray parts := by kernel_rfl
theorem bt_point {xs : List Value} {z : Int} (h : xs.length = 32) : Try.prog.built 39 [(0, .agg xs.toArray), (1, .int .i64 z)] = some (xs ++ [Value.int .i64 z]).toArray := by
  rw [built_point0, fill_cons (off := 0) (s := 32) (cs := xs) (by simp) rfl h (by rw [ptZ_len]; omega)]
  have e : splice ptZ 0 xs = xs ++ [Value.int .i64 0] := by
    rw [show ptZ = [] ++ (zeroD.map B ++ [Value.int .i64 0]) from rfl, splice_mid (off := 0) (by rfl) (by simp [h, zeroD])]; rfl
  rw [e, fill_cons (off := 32) (s := 1) (cs := [Value.int .i64 z]) (by simp) rfl rfl (by simp [h]), fill_nil]
  rw [show xs ++ [Value.int .i64 0] = xs ++ ([Value.int .i64 0] ++ []) from by simp, splice_mid (off := 32) (by simp [h]) (by simp)]; simp
theorem bt_tin {xs : List Value} (h : xs.length = 33) : Try.prog.built 41 [(0, .agg xs.toArray)] = some (xs ++ [Value.int .u64 0, .slice none 0 0]).toArray := by
  rw [built_tin0, fill_cons (off := 0) (s := 33) (cs := xs) (by simp) rfl h (by rw [inV_len noIn_ok]; omega), fill_nil]
  rw [show inV (.slice none 0 0) noIn = [] ++ ((zeroD.map B ++ [Value.int .i64 0]) ++ [Value.int .u64 0, .slice none 0 0]) from by simp [inV, noIn], splice_mid (off := 0) (by rfl) (by simp [h, zeroD])]; rfl
theorem bt_tout {xs : List Value} (h : xs.length = 32) : Try.prog.built 43 [(0, .agg xs.toArray)] = some (xs ++ [Value.int .u64 0]).toArray := by
  rw [built_tout0, fill_cons (off := 0) (s := 32) (cs := xs) (by simp) rfl h (by rw [outV_len noOut_ok]; omega), fill_nil]
  rw [show outV noOut = [] ++ (zeroD.map B ++ [Value.int .u64 0]) from by simp [outV, noOut], splice_mid (off := 0) (by rfl) (by simp [h, zeroD])]; rfl
theorem in_set {d : List UInt8} {v : Value} {z a : Int} {s : List UInt8} (h : d.length = 32) : (((d.map B ++ [Value.int .i64 z]) ++ [Value.int .u64 0, .slice none 0 0]).set 33 (.int .u64 a)).set 34 v = inV v ⟨d, z, a, s⟩ := by
  have h2 : (d.map B).length = 32 := by simp [h]
  unfold inV
  simp only
  generalize d.map B = q at h2 ⊢
  rw [List.append_assoc, List.set_append_right _ _ (by omega), List.set_append_right _ _ (by omega), h2]; rfl
theorem out_set {d : List UInt8} {a : Int} (h : d.length = 32) : (d.map B ++ [Value.int .u64 0]).set 32 (.int .u64 a) = outV ⟨d, a⟩ := by
  have h2 : (d.map B).length = 32 := by simp [h]
  unfold outV
  simp only
  generalize d.map B = q at h2 ⊢
  rw [List.set_append_right _ _ (by omega), h2]; rfl
theorem in_one {v : Value} {i : Inp} (hv : v.oneCell' = true) : ∀ u ∈ inV v i, u.oneCell' = true := by
  intro u hu
  unfold inV at hu
  rcases List.mem_append.1 hu with hu | hu
  · exact all_bytes _ u hu
  · simp only [List.mem_cons, List.not_mem_nil, or_false] at hu
    rcases hu with rfl | rfl | rfl
    · rfl
    · rfl
    · exact hv
theorem out_one {o : Outp} : ∀ u ∈ outV o, u.oneCell' = true := by
  intro u hu
  unfold outV at hu
  rcases List.mem_append.1 hu with hu | hu
  · exact all_bytes _ u hu
  · have : u = .int .u64 o.amount := by simpa using hu
    rw [this]; rfl
theorem grownBy_row {a b c : World} {r : Option Nat} {A : Option Addr} {Z : Nat} (h : a.grownBy b r) (k : b.grownBy c (A.map Addr.block)) (hA : ∀ q, A.map Addr.block = some q → Z ≤ q) (hZ : a.heap.size ≤ Z) : a.grownBy c r :=
  ⟨k.os.trans h.os, k.tape.trans h.tape, k.output.trans h.output, Nat.le_trans h.size k.size, fun i hi hn => (k.block i (Nat.lt_of_lt_of_le hi h.size) (fun e => by have := hA i e.symm; omega)).trans (h.block i hi hn)⟩
theorem EyeAt.row {w w' : World} {Lo Bd g Z : Nat} {l : List UInt8} {A : Option Addr} (h : EyeAt w Lo Bd g l) (k : w.grownBy w' (A.map Addr.block)) (hA : ∀ q, A.map Addr.block = some q → Z ≤ q) (hZ : Bd ≤ Z) : EyeAt w' Lo Bd g l :=
  h.keep (fun i _ hi => k.block i (by have := h.bd; omega) (fun e => by have := hA i e.symm; omega)) k.size
theorem InsO.base {w : World} {Z Z2 n c : Nat} {A : Option Addr} {l : List (Value × Inp)} (h : InsO w Z A n c l) (hz : Z2 ≤ Z) : InsO w Z2 A n c l :=
  ⟨own_base h.1 hz, fun p hp => by
    obtain ⟨⟨A', c', e, hc, ho⟩, hk⟩ := h.2.1 p hp
    exact ⟨⟨A', c', e, hc, own_base ho hz⟩, hk⟩, h.2.2⟩
theorem OutsO.base {w : World} {Z Z2 n c : Nat} {A : Option Addr} {l : List Outp} (h : OutsO w Z A n c l) (hz : Z2 ≤ Z) : OutsO w Z2 A n c l := ⟨own_base h.1 hz, h.2⟩
/-- What look leaves. -/
def LookR (w w' : World) (Lo Bd g : Nat) (l : List UInt8) (e : Ending) : Prop := w.grownBy w' (some g) ∧ ((∃ x, lookT l = .error x ∧ e = .panicked (brk x)) ∨
  (∃ t l' A n c A2 n2 c2, lookT l = .ok (t, l') ∧ e = .returned (.agg (txV A n c A2 n2 c2 t.fee t.expiry).toArray) ∧ TGot w' w.heap.size A n c A2 n2 c2 t ∧ EyeAt w' Lo Bd g l'))
set_option maxRecDepth 100000 in
set_option maxHeartbeats 8000000 in
theorem tlook_any {Lo Bd g : Nat} {l : List UInt8} (w : World) (h : EyeAt w Lo Bd g l) : Calls Try.prog 12 #[.pointer (some ⟨g, 0, none⟩)] w fun e w' => LookR w w' Lo Bd g l e := by
  have HE := Lib.hid h
  obtain ⟨res, hres⟩ : ∃ r, r = lookT l := ⟨_, rfl⟩
  have HRES := Lib.hid hres
  have HERR := Lib.hid (fun (x : Nat) (w' : World) (hx : res = .error x) (hg : w.grownBy w' (some g)) => show LookR w w' Lo Bd g l (.panicked (brk x)) from ⟨hg, .inl ⟨x, by rw [← hres]; exact hx, rfl⟩⟩)
  unfold lookT at hres
  have HR := Lib.hid hres
  obtain ⟨gv, hgv⟩ : ∃ q, q = w.heap.size := ⟨_, rfl⟩
  have HN := Lib.hid (show w.heap.size ≤ gv by omega)
  have HL := Lib.hid (show Bd ≤ gv by have := h.bd; omega)
  have HQ := Lib.hid (show gv ≠ g by have := h.bd; omega)
  have HGV := Lib.hid (show g < gv by have := h.bd; omega)
  clear h hres
  go_enter Try.func12, Try.ntmps12
  go_wp2_with (first | (with_reducible refine wpl_alloc (o := ⟨some 2, _, _, _, _, _⟩) rfl rfl zero_txT ?_))
  intro w2_ hb2_ hbw_ hsz2_
  rw [← hgv] at hb2_ ⊢
  have HV := Lib.hid hb2_
  have HG := Lib.hid (grown_of_below hbw_ (some g))
  have HE_ := Lib.hid (HE.out.grow hbw_)
  have HZS := Lib.hid (show gv + 1 ≤ w2_.heap.size by omega)
  clear hb2_ hbw_ hsz2_ HE hgv
  have HE := HE_
  clear HE_
  try clear w_
  rename World => w_
  go_wp2_with fail
  refine (enum_any (most := 16) _ HE.out).mono ?_
  rintro e w2_ hr_
  obtain ⟨hg_, ⟨x_, hx_, rfl⟩ | ⟨v0, l0, hx_, rfl, hE_⟩⟩ := hr_.get
  · have HX_ := Lib.hid hx_
    have HG_ := Lib.hid (grownBy_trans HG.out hg_)
    clear hr_ hx_ hg_
    go_wp2_with fail
    exact ⟨by first | trivial | rfl, HERR.out x_ _ (by rw [HR.out, HX_.out]) HG_.out⟩
  have HX0 := Lib.hid hx_
  replace HG := Lib.hid (grownBy_trans HG.out hg_)
  have HR_ := HR.out
  rw [hx_] at HR_
  simp only at HR_
  replace HR := Lib.hid HR_
  clear HR_
  replace HV := Lib.hid (Blk.grown HV.out hg_ (fun e => by injection e with e; have := HQ.out; omega))
  replace HE := Lib.hid hE_
  try clear hr_
  clear hx_ hE_ hg_
  try clear w_
  rename World => w_
  have HN16 := Lib.hid (numR_le HX0.out).1
  obtain ⟨Z, hZ⟩ : ∃ z, z = gv + 1 := ⟨_, rfl⟩
  have HZ := Lib.hid hZ
  have HBZ := Lib.hid (show Bd ≤ Z by have := HL.out; omega)
  have HZ0 := Lib.hid (show Z ≤ w_.heap.size by have := HV.out.lt; omega)
  clear HZS hZ
  go_wp2_with fail
  go_loopw [7] (fun iv wr => ∃ k : Nat, ∃ A c, ∃ ls : List (Value × Inp), ∃ l2, k ≤ v0 ∧ iv = .int .u64 (k : Int) ∧ Hid (lookN lookI k l0 = .ok (ls.map Prod.snd, l2)) ∧ Hid (EyeAt wr Lo Bd g l2) ∧ Hid (Blk wr gv 28 (txV A k c none 0 0 0 0)) ∧ Hid (InsO wr Z A k c ls) ∧ Hid (w.grownBy wr (some g)) ∧ Hid (Z ≤ wr.heap.size)) (fun iv _ => v0 - (intOf iv).toNat)
  case atStart => exact ⟨0, none, 0, [], l0, by omega, rfl, Lib.hid rfl, HE, HV, Lib.hid ⟨own_nil0 _ _ _ _, (fun p hp => by cases hp), rfl⟩, HG, HZ0⟩
  case round =>
    obtain ⟨k, A, c, ls, l2, hk, rfl, hI, hE, hV, hO, hG, hZw⟩ := hrel
    clear HE HV HG HZ0
    have HI := Lib.hid hI.out; have HE := Lib.hid hE.out; have HV := Lib.hid hV.out; have HO := Lib.hid hO.out; have HG := Lib.hid hG.out; have HZW := Lib.hid hZw.out
    clear hI hE hV hO hG hZw
    rename World => w_
    by_cases hlt : k < v0
    · have HSTEP := Lib.hid (show ∀ x, lookI l2 = .error x → res = .error x from fun x hx => by
        have h1 : lookN lookI (k + 1) l0 = .error x := by rw [lookN_snoc, HI.out]; simp only; rw [hx]
        have h2 := lookN_err h1 (v0 - (k + 1))
        rw [show k + 1 + (v0 - (k + 1)) = v0 by omega] at h2
        rw [HR.out, h2])
      have q1 : IntKind.u64.wrap ((k : Int) + 1) = (k : Int) + 1 := by have := HN16.out; rw [IntKind.wrap_u64]; omega
      have HQ1 := Lib.hid q1
      clear q1
      obtain ⟨rI, hrI⟩ : ∃ r, r = lookI l2 := ⟨_, rfl⟩
      have HRI0 := Lib.hid hrI
      unfold lookI at hrI
      have HRI := Lib.hid hrI
      clear hrI
      have HW := Lib.hid (grownBy_refl w_ (some g))
      obtain ⟨wo, hwo⟩ : ∃ x, x = w_ := ⟨_, rfl⟩
      have HO0 := Lib.hid (show InsO wo Z A k c ls by rw [hwo]; exact HO.out)
      have HV0 := Lib.hid (show Blk wo gv 28 (txV A k c none 0 0 0 0) by rw [hwo]; exact HV.out)
      have HG0 := Lib.hid (show w.grownBy wo (some g) by rw [hwo]; exact HG.out)
      have HW := Lib.hid (show wo.grownBy w_ (some g) by rw [hwo]; exact grownBy_refl _ _)
      have HZW0 := Lib.hid (show Z ≤ wo.heap.size by rw [hwo]; exact HZW.out)
      clear HO HG HZW hwo HV
      go_wp2_with fail
      refine (eid_any _ HE.out).mono ?_
      rintro e w2_ hr_
      obtain ⟨hg_, ⟨x_, hx_, rfl⟩ | ⟨v1, l1, hx_, rfl, hE_⟩⟩ := hr_.get
      · have HX_ := Lib.hid hx_
        have HW_ := Lib.hid (grownBy_trans HW.out hg_)
        clear hr_ hx_ hg_
        go_wp2_with fail
        exact ⟨by first | trivial | rfl, HERR.out x_ _ (HSTEP.out x_ (by rw [← HRI0.out, HRI.out, HX_.out])) (grownBy_trans HG0.out HW_.out)⟩
      have HX1 := Lib.hid hx_
      replace HW := Lib.hid (grownBy_trans HW.out hg_)
      have HRI_ := HRI.out
      rw [hx_] at HRI_
      simp only at HRI_
      replace HRI := Lib.hid HRI_
      clear HRI_
      replace HE := Lib.hid hE_
      try clear hr_
      clear hx_ hE_ hg_
      try clear w_
      rename World => w_
      go_wp2_with fail
      refine (enum_any (most := 15) _ HE.out).mono ?_
      rintro e w2_ hr_
      obtain ⟨hg_, ⟨x_, hx_, rfl⟩ | ⟨v2, l2, hx_, rfl, hE_⟩⟩ := hr_.get
      · have HX_ := Lib.hid hx_
        have HW_ := Lib.hid (grownBy_trans HW.out hg_)
        clear hr_ hx_ hg_
        go_wp2_with fail
        exact ⟨by first | trivial | rfl, HERR.out x_ _ (HSTEP.out x_ (by rw [← HRI0.out, HRI.out, HX_.out])) (grownBy_trans HG0.out HW_.out)⟩
      have HX2 := Lib.hid hx_
      replace HW := Lib.hid (grownBy_trans HW.out hg_)
      have HRI_ := HRI.out
      rw [hx_] at HRI_
      simp only at HRI_
      replace HRI := Lib.hid HRI_
      clear HRI_
      replace HE := Lib.hid hE_
      try clear hr_
      clear hx_ hE_ hg_
      try clear w_
      rename World => w_
      have q2 : IntKind.i64.wrap (v2 : Int) = (v2 : Int) := IntWalk.i64_in _ (by have := numR_le HX2.out; omega)
      have HD := Lib.hid (dig_map (takeR_le HX1.out).1)
      have HDL := Lib.hid (takeR_le HX1.out).1
      have TP := Lib.hid (bt_point (xs := v1.map B) (z := (v2 : Int)) HD.out.len)
      have HPL := Lib.hid (show (v1.map B ++ [Value.int .i64 (v2 : Int)]).length = 33 by have := HD.out.len; simp only [List.length_append, List.length_singleton]; omega)
      have TI := Lib.hid (bt_tin HPL.out)
      have HIL := Lib.hid (show ((v1.map B ++ [Value.int .i64 (v2 : Int)]) ++ [Value.int .u64 0, .slice none 0 0]).length = 35 by have := HPL.out; rw [List.length_append, this]; rfl)
      have HI1 := Lib.hid (show ∀ u ∈ (v1.map B ++ [Value.int .i64 (v2 : Int)]) ++ [Value.int .u64 0, .slice none 0 0], u.oneCell' = true from by
        rw [show (v1.map B ++ [Value.int .i64 (v2 : Int)]) ++ [Value.int .u64 0, .slice none 0 0] = inV (.slice none 0 0) ⟨v1, (v2 : Int), 0, []⟩ from by simp [inV]]
        exact in_one rfl)
      have HSET := Lib.hid (fun (v : Value) (a : Int) (s : List UInt8) => in_set (v := v) (z := (v2 : Int)) (a := a) (s := s) HDL.out)
      obtain ⟨dv, hdv⟩ : ∃ q, q = v1.map B := ⟨_, rfl⟩
      rw [← hdv] at TP HPL TI HIL HI1 HSET ⊢
      clear hdv
      obtain ⟨pv, hpv⟩ : ∃ q, q = dv ++ [Value.int .i64 (v2 : Int)] := ⟨_, rfl⟩
      rw [← hpv] at TP HPL TI HIL HI1 HSET
      clear hpv
      obtain ⟨iz, hiz⟩ : ∃ q, q = pv ++ [Value.int .u64 0, .slice none 0 0] := ⟨_, rfl⟩
      rw [← hiz] at TI HIL HI1 HSET
      clear hiz
      go_wp2_with (first | (with_reducible refine wpl_stop (o := ⟨some 14, _, _, _, _, _⟩) ?_))
      refine stop_go ?_
      refine wpl_build rfl rfl TP.out ?_
      go_wp2_with (first | (with_reducible refine wpl_stop (o := ⟨some 15, _, _, _, _, _⟩) ?_))
      refine stop_go ?_
      refine wpl_build rfl rfl TI.out ?_
      go_wp2_with (first | (with_reducible refine wpl_alloc (o := ⟨some 3, _, _, _, _, _⟩) rfl rfl zero_tinT ?_))
      intro w2_ hb2_ hb_ hsz2_
      have HC_ := Lib.hid hb2_
      have HW_ := Lib.hid (grownBy_grow HW.out hb_)
      have HE_ := Lib.hid (HE.out.grow hb_)
      have HN_ := Lib.hid (show wo.heap.size ≤ w_.heap.size from HW.out.size)
      have HB_ := Lib.hid (show Bd ≤ w_.heap.size by have := HE.out.bd; exact this.2)
      generalize hg_ : w_.heap.size = gi at HC_ HN_ HB_ ⊢
      clear hb2_ hb_ hsz2_ hg_ HW HE
      have HW := HW_; have HE := HE_; have HI_n := HN_; have HI_b := HB_
      clear HW_ HE_ HN_ HB_
      try clear w_
      rename World => w_
      go_wp2_with (first | (with_reducible refine wpl_storeb (o := ⟨none, .store _ _ _, _, _, _, _⟩) rfl rfl row_tin HC_.out rfl rfl (inV_len noIn_ok) HIL.out HI1.out ?_))
      intro w2_ hb2_ hg2_ hsz2_
      have HC_ := Lib.hid hb2_
      have HW_ := Lib.hid (grownBy_new HW.out hg2_ HI_n.out)
      have HE_ := Lib.hid (HE.out.off hg2_ (.inr HI_b.out))
      clear hb2_ hg2_ hsz2_ HW HE 
      have HW := HW_; have HE := HE_; have HC := HC_
      clear HW_ HE_ HC_
      try clear w_
      rename World => w_
      clear q2
      go_wp2_with fail
      refine (enum_any (most := 18446744073709551615) _ HE.out).mono ?_
      rintro e w2_ hr_
      obtain ⟨hg_, ⟨x_, hx_, rfl⟩ | ⟨v3, l3, hx_, rfl, hE_⟩⟩ := hr_.get
      · have HX_ := Lib.hid hx_
        have HW_ := Lib.hid (grownBy_trans HW.out hg_)
        clear hr_ hx_ hg_
        go_wp2_with fail
        exact ⟨by first | trivial | rfl, HERR.out x_ _ (HSTEP.out x_ (by rw [← HRI0.out, HRI.out, HX_.out])) (grownBy_trans HG0.out HW_.out)⟩
      have HX3 := Lib.hid hx_
      replace HW := Lib.hid (grownBy_trans HW.out hg_)
      have HRI_ := HRI.out
      rw [hx_] at HRI_
      simp only at HRI_
      replace HRI := Lib.hid HRI_
      clear HRI_
      replace HC := Lib.hid (Blk.grown HC.out hg_ (fun e => by injection e with e; have := HI_b.out; have h9 := HE.out.bd; omega))
      replace HE := Lib.hid hE_
      try clear hr_
      clear hx_ hE_ hg_
      try clear w_
      rename World => w_
      go_wp2_with (first | (refine wpl_store1 (o := ⟨none, .store _ _ _, _, _, _, _⟩) rfl rfl HC.out rfl rfl (by kernel_rfl) rfl rfl (by rw [HIL.out]; omega) ?_))
      intro w2_ hb2_ hg2_ hsz2_
      have HC_ := Lib.hid hb2_
      have HW_ := Lib.hid (grownBy_new HW.out hg2_ HI_n.out)
      have HE_ := Lib.hid (HE.out.off hg2_ (.inr HI_b.out))
      clear hb2_ hg2_ hsz2_ HW HE 
      have HW := HW_; have HE := HE_; have HC := HC_
      clear HW_ HE_ HC_
      try clear w_
      rename World => w_
      go_wp2_with fail
      refine (etext_any (most := 64) _ HE.out (by omega)).mono ?_
      rintro e w2_ ⟨hg_, ⟨x_, hx_, rfl⟩ | ⟨v4, l4, A5, c5, hx_, rfl, ho_, hc_, hE_⟩⟩
      · have HX_ := Lib.hid hx_
        have HW_ := Lib.hid (grownBy_trans HW.out hg_)
        clear hx_ hg_
        go_wp2_with fail
        exact ⟨by first | trivial | rfl, HERR.out x_ _ (HSTEP.out x_ (by rw [← HRI0.out, HRI.out, HX_.out])) (grownBy_trans HG0.out HW_.out)⟩
      have HO5 := Lib.hid (show w2_.ownsRow Z 5 1 (.slice A5 v4.length c5) v4.length (v4.map B) from own_base ho_ (by have := HW.out.size; have := HZW0.out; omega))
      have HC5 := Lib.hid hc_
      have HA5 := Lib.hid (show ∀ q, A5.map Addr.block = some q → gi < q from fun q hq => by have h1 := own_from ho_ q hq; have := HC.out.lt; omega)
      clear ho_ hc_
      have HX4 := Lib.hid hx_
      replace HW := Lib.hid (grownBy_trans HW.out hg_)
      have HRI_ := HRI.out
      rw [hx_] at HRI_
      simp only at HRI_
      replace HRI := Lib.hid HRI_
      clear HRI_
      replace HC := Lib.hid (Blk.grown HC.out hg_ (fun e => by injection e with e; have := HI_b.out; have h9 := HE.out.bd; omega))
      replace HE := Lib.hid hE_
      try clear hr_
      clear hx_ hE_ hg_
      try clear w_
      rename World => w_
      have HTX := Lib.hid (textR_le HX4.out).1
      go_wp2_with (first | (refine wpl_store1 (o := ⟨none, .store _ _ _, _, _, _, _⟩) rfl rfl HC.out rfl rfl (by kernel_rfl) rfl rfl (by rw [List.length_set, HIL.out]; omega) ?_))
      intro w2_ hb2_ hg2_ hsz2_
      have HC_ := Lib.hid hb2_
      have HW_ := Lib.hid (grownBy_new HW.out hg2_ HI_n.out)
      have HE_ := Lib.hid (HE.out.off hg2_ (.inr HI_b.out))
      have HO5_ := Lib.hid (own_kept HO5.out hg2_ (fun q hq e => by have h1 := HA5.out q (by rw [hq]; rfl); injection e with e; omega))
      clear hb2_ hg2_ hsz2_ HW HE HO5
      have HW := HW_; have HE := HE_; have HC := HC_
      clear HW_ HE_ HC_
      try clear w_
      rename World => w_
      have HO5 := HO5_
      clear HO5_
      have HCI := Lib.hid (show Blk w_ gi 41 (inV (.slice A5 v4.length c5) ⟨v1, (v2 : Int), (v3 : Int), v4⟩) by rw [← HSET.out (.slice A5 v4.length c5) (v3 : Int) v4]; exact HC.out)
      have HIK := Lib.hid (show (⟨v1, (v2 : Int), (v3 : Int), v4⟩ : Inp).ok from ⟨HDL.out, by have := numR_le HX2.out; unfold I64; simp only; omega, by have := numR_le HX3.out; unfold U64; simp only; omega⟩)
      have HIV := Lib.hid (show Cl 35 (inV (.slice A5 v4.length c5) ⟨v1, (v2 : Int), (v3 : Int), v4⟩) from ⟨inV_len HIK.out, in_one rfl⟩)
      obtain ⟨iv, hiv⟩ : ∃ q, q = inV (.slice A5 v4.length c5) ⟨v1, (v2 : Int), (v3 : Int), v4⟩ := ⟨_, rfl⟩
      have HIE := Lib.hid hiv
      rw [← hiv] at HCI HIV
      clear hiv HC HIL HI1 HSET TI TP HPL
      have HV := Lib.hid (HV0.out.grown HW.out (fun e => by injection e with e; exact HQ.out e))
      have HO := Lib.hid (InsO.keep HO0.out (fun b hb hlt => HW.out.block b hlt (fun e => by injection e with e; have := HGV.out; have := HZ.out; omega)))
      have HG := Lib.hid (grownBy_trans HG0.out HW.out)
      have HZW := Lib.hid (Nat.le_trans HZW0.out HW.out.size)
      clear HW HV0 HO0 HG0
      have c1 := HV.out.at_ (i := 0) rfl
      go_wp2_with (first | (with_reducible refine wpl_loadb (o := ⟨some 24, _, _, _, _, _⟩) rfl rfl row_tin HCI.out rfl HIV.out.len ?_) | (refine wpl_row1 (o := ⟨some 25, .buildSlice _ _ _, _, _, _, _⟩) rfl rfl el_tin (by first | rfl | (go_simp; done)) HIV.out.len (by omega) ?_))
      intro w2_ hb2_ hb_ hsz2_
      have HSX := Lib.hid (show Sl w2_ w2_.heap.size 35 (some ⟨w_.heap.size, 0, none⟩) 1 iv from hb2_.sl (by rw [HIV.out.len]))
      generalize w_.heap.size = gx at HSX ⊢
      have HV_ := Lib.hid (HV.out.grow hb_); have HE_ := Lib.hid (HE.out.grow hb_); have HG_ := Lib.hid (grownBy_grow HG.out hb_); have HO_ := Lib.hid (HO.out.keep (fun b _ hb => hb_.block b hb)); have HO5_ := Lib.hid (own_below HO5.out hb_); have HZW_ := Lib.hid (Nat.le_trans HZW.out hb_.size)
      clear hb2_ hb_ hsz2_ c1 HV HE HG HO HO5 HZW HCI
      have HV := HV_; have HE := HE_; have HG := HG_; have HO := HO_; have HO5 := HO5_; have HZW := HZW_
      clear HV_ HE_ HG_ HO_ HO5_ HZW_
      try clear w_
      rename World => w_
      have hn16 := HN16.out
      go_wp2_with (at_builtin; refine wpl_apps rfl rfl el_tin HO.out.1 rfl HSX.out rfl HIV.out.one (by omega) (by omega) HZW.out ?_)
      intro A4 c4 w2_ ho_ hg_ hA_
      clear hn16
      have hne_ : ∀ q, A.map Addr.block = some q → Z ≤ q := own_from HO.out.1
      have HV_ := Lib.hid (HV.out.grown hg_ (fun e => by have h1 := hne_ _ e.symm; have := HZ.out; omega))
      have HE_ := Lib.hid (HE.out.row hg_ hne_ HBZ.out)
      have HG_ := Lib.hid (grownBy_row HG.out hg_ hne_ (by have := HN.out; have := HZ.out; omega))
      have HO_ := Lib.hid (show InsO w2_ Z A4 (k + 1) c4 (ls ++ [(.slice A5 v4.length c5, ⟨v1, (v2 : Int), (v3 : Int), v4⟩)]) from InsO.snoc HO.out hg_ (by rw [← HIE.out]; exact ho_) ⟨A5, c5, rfl, HC5.out, HO5.out⟩ HIK.out)
      have HZW_ := Lib.hid (Nat.le_trans HZW.out hg_.size)
      clear ho_ hg_ hA_ hne_ HV HE HG HO HO5 HZW HSX
      have HV := HV_; have HE := HE_; have HG := HG_; have HO := HO_; have HZW := HZW_
      clear HV_ HE_ HG_ HO_ HZW_
      try clear w_
      rename World => w_
      go_wp2_with (first | (refine wpl_store1 (o := ⟨none, .store _ _ _, _, _, _, _⟩) rfl rfl HV.out rfl rfl (by kernel_rfl) rfl rfl (by simp [txV]) ?_))
      intro w2_ hb2_ hg2_ hsz2_
      have HV_ := Lib.hid (show Blk w2_ gv 28 (txV A4 (k + 1) c4 none 0 0 0 0) from hb2_)
      have HE_ := Lib.hid (HE.out.off hg2_ (.inr HL.out))
      have HG_ := Lib.hid (grownBy_new HG.out hg2_ HN.out)
      have HO_ := Lib.hid (HO.out.keep (fun b hb hlt => hg2_.block b hlt (fun e => by injection e with e; have := HZ.out; omega)))
      have HZW_ := Lib.hid (Nat.le_trans HZW.out hg2_.size)
      have HI_ := Lib.hid (show lookN lookI (k + 1) l0 = .ok ((ls ++ [((.slice A5 v4.length c5 : Value), (⟨v1, (v2 : Int), (v3 : Int), v4⟩ : Inp))]).map Prod.snd, l4) by rw [lookN_snoc, HI.out]; simp only; rw [← HRI0.out, HRI.out]; simp)
      clear hb2_ hg2_ hsz2_
      have q1 := HQ1.out
      go_wp2_with fail
      go_roundw
      all_goals clear q1
      case rel => exact ⟨k + 1, A4, c4, _, l4, by omega, by first | go_num | simp | rfl, HI_, HE_, HV_, HO_, HG_, HZW_⟩
      case measure => simp [intOf]; omega
    · obtain rfl : k = v0 := by omega
      have HR_ := HR.out
      rw [HI.out] at HR_
      simp only at HR_
      replace HR := Lib.hid HR_
      clear HR_
      go_wp2_with fail
      refine (enum_any (most := 16) _ HE.out).mono ?_
      rintro e w2_ hr_
      obtain ⟨hg_, ⟨x_, hx_, rfl⟩ | ⟨vm, lm, hx_, rfl, hE_⟩⟩ := hr_.get
      · have HX_ := Lib.hid hx_
        have HG_ := Lib.hid (grownBy_trans HG.out hg_)
        clear hr_ hx_ hg_
        go_wp2_with fail
        exact ⟨by first | trivial | rfl, HERR.out x_ _ (by rw [HR.out, HX_.out]) HG_.out⟩
      replace HO := Lib.hid (HO.out.keep (fun b hb hlt => hg_.block b hlt (fun e => by injection e with e; have := HGV.out; have := HZ.out; omega)))
      replace HZW := Lib.hid (Nat.le_trans HZW.out hg_.size)
      have HXm := Lib.hid hx_
      replace HG := Lib.hid (grownBy_trans HG.out hg_)
      have HR_ := HR.out
      rw [hx_] at HR_
      simp only at HR_
      replace HR := Lib.hid HR_
      clear HR_
      replace HV := Lib.hid (Blk.grown HV.out hg_ (fun e => by injection e with e; have := HQ.out; omega))
      replace HE := Lib.hid hE_
      try clear hr_
      clear hx_ hE_ hg_
      try clear w_
      rename World => w_
      have HM16 := Lib.hid (numR_le HXm.out).1
      obtain ⟨wz, hwz⟩ : ∃ x, x = w_ := ⟨_, rfl⟩
      obtain ⟨Z2, hZ2⟩ : ∃ z, z = wz.heap.size := ⟨_, rfl⟩
      have HZ2 := Lib.hid hZ2
      have HOZ := Lib.hid (show InsO wz Z A k c ls by rw [hwz]; exact HO.out)
      have HZZ := Lib.hid (show Z ≤ Z2 by rw [hZ2, hwz]; exact HZW.out)
      have HKZ := Lib.hid (show ∀ b, Z ≤ b → b < Z2 → w_.heap[b]? = wz.heap[b]? from fun b _ _ => by rw [hwz])
      have HSZ := Lib.hid (show Z2 ≤ w_.heap.size by rw [hZ2, hwz]; exact Nat.le_refl _)
      clear hwz hZ2 HO HZW
      go_wp2_with fail
      go_loopw [31] (fun iv wr => ∃ j : Nat, ∃ A2 c2, ∃ os : List Outp, ∃ l3, j ≤ vm ∧ iv = .int .u64 (j : Int) ∧ Hid (lookN lookO j lm = .ok (os, l3)) ∧ Hid (EyeAt wr Lo Bd g l3) ∧ Hid (Blk wr gv 28 (txV A k c A2 j c2 0 0)) ∧ Hid (OutsO wr Z2 A2 j c2 os) ∧ Hid (w.grownBy wr (some g)) ∧ Hid (∀ b, Z ≤ b → b < Z2 → wr.heap[b]? = wz.heap[b]?) ∧ Hid (Z2 ≤ wr.heap.size)) (fun iv _ => vm - (intOf iv).toNat)
      case atStart => exact ⟨0, none, 0, [], lm, by omega, rfl, Lib.hid rfl, HE, HV, Lib.hid ⟨own_nil0 _ _ _ _, (fun p hp => by cases hp), rfl⟩, HG, HKZ, HSZ⟩
      case round =>
        obtain ⟨j, A2, c2, os, l3, hj, rfl, hI, hE, hV, hO, hG, hK, hZw⟩ := hrel
        clear HE HV HG HKZ HSZ
        have HI := Lib.hid hI.out; have HE := Lib.hid hE.out; have HV := Lib.hid hV.out; have HO := Lib.hid hO.out; have HG := Lib.hid hG.out; have HKZ := Lib.hid hK.out; have HSZ := Lib.hid hZw.out
        clear hI hE hV hO hG hK hZw
        rename World => w_
        by_cases hlt : j < vm
        · have HSTEP := Lib.hid (show ∀ x, lookO l3 = .error x → res = .error x from fun x hx => by
            have h1 : lookN lookO (j + 1) lm = .error x := by rw [lookN_snoc, HI.out]; simp only; rw [hx]
            have h2 := lookN_err h1 (vm - (j + 1))
            rw [show j + 1 + (vm - (j + 1)) = vm by omega] at h2
            rw [HR.out, h2])
          have q1 : IntKind.u64.wrap ((j : Int) + 1) = (j : Int) + 1 := by have := HM16.out; rw [IntKind.wrap_u64]; omega
          have HQ1 := Lib.hid q1
          clear q1
          obtain ⟨rI, hrI⟩ : ∃ r, r = lookO l3 := ⟨_, rfl⟩
          have HRI0 := Lib.hid hrI
          unfold lookO at hrI
          have HRI := Lib.hid hrI
          clear hrI
          obtain ⟨wo, hwo⟩ : ∃ x, x = w_ := ⟨_, rfl⟩
          have HO0 := Lib.hid (show OutsO wo Z2 A2 j c2 os by rw [hwo]; exact HO.out)
          have HV0 := Lib.hid (show Blk wo gv 28 (txV A k c A2 j c2 0 0) by rw [hwo]; exact HV.out)
          have HG0 := Lib.hid (show w.grownBy wo (some g) by rw [hwo]; exact HG.out)
          have HW := Lib.hid (show wo.grownBy w_ (some g) by rw [hwo]; exact grownBy_refl _ _)
          have HZW0 := Lib.hid (show Z2 ≤ wo.heap.size by rw [hwo]; exact HSZ.out)
          have HKZ0 := Lib.hid (show ∀ b, Z ≤ b → b < Z2 → wo.heap[b]? = wz.heap[b]? by rw [hwo]; exact HKZ.out)
          clear HO HG HKZ HSZ hwo HV
          go_wp2_with fail
          refine (eid_any _ HE.out).mono ?_
          rintro e w2_ hr_
          obtain ⟨hg_, ⟨x_, hx_, rfl⟩ | ⟨v1, l1, hx_, rfl, hE_⟩⟩ := hr_.get
          · have HX_ := Lib.hid hx_
            have HW_ := Lib.hid (grownBy_trans HW.out hg_)
            clear hr_ hx_ hg_
            go_wp2_with fail
            exact ⟨by first | trivial | rfl, HERR.out x_ _ (HSTEP.out x_ (by rw [← HRI0.out, HRI.out, HX_.out])) (grownBy_trans HG0.out HW_.out)⟩
          have HX1 := Lib.hid hx_
          replace HW := Lib.hid (grownBy_trans HW.out hg_)
          have HRI_ := HRI.out
          rw [hx_] at HRI_
          simp only at HRI_
          replace HRI := Lib.hid HRI_
          clear HRI_
          replace HE := Lib.hid hE_
          try clear hr_
          clear hx_ hE_ hg_
          try clear w_
          rename World => w_
          have HD := Lib.hid (dig_map (takeR_le HX1.out).1)
          have HDL := Lib.hid (takeR_le HX1.out).1
          have TO := Lib.hid (bt_tout (xs := v1.map B) HD.out.len)
          have HIL := Lib.hid (show (v1.map B ++ [Value.int .u64 0]).length = 33 by have := HD.out.len; simp only [List.length_append, List.length_singleton]; omega)
          have HI1 := Lib.hid (show ∀ u ∈ v1.map B ++ [Value.int .u64 0], u.oneCell' = true from out_one (o := ⟨v1, 0⟩))
          have HSET := Lib.hid (fun (a : Int) => out_set (a := a) HDL.out)
          obtain ⟨dv, hdv⟩ : ∃ q, q = v1.map B := ⟨_, rfl⟩
          rw [← hdv] at TO HIL HI1 HSET ⊢
          clear hdv
          obtain ⟨iz, hiz⟩ : ∃ q, q = dv ++ [Value.int .u64 0] := ⟨_, rfl⟩
          rw [← hiz] at TO HIL HI1 HSET
          clear hiz
          go_wp2_with (first | (with_reducible refine wpl_stop (o := ⟨some 35, _, _, _, _, _⟩) ?_))
          refine stop_go ?_
          refine wpl_build rfl rfl TO.out ?_
          go_wp2_with (first | (with_reducible refine wpl_alloc (o := ⟨some 4, _, _, _, _, _⟩) rfl rfl zero_toutT ?_))
          intro w2_ hb2_ hb_ hsz2_
          have HC_ := Lib.hid hb2_
          have HW_ := Lib.hid (grownBy_grow HW.out hb_)
          have HE_ := Lib.hid (HE.out.grow hb_)
          have HN_ := Lib.hid (show wo.heap.size ≤ w_.heap.size from HW.out.size)
          have HB_ := Lib.hid (show Bd ≤ w_.heap.size by have := HE.out.bd; exact this.2)
          generalize hg_ : w_.heap.size = gi at HC_ HN_ HB_ ⊢
          clear hb2_ hb_ hsz2_ hg_ HW HE
          have HW := HW_; have HE := HE_; have HI_n := HN_; have HI_b := HB_
          clear HW_ HE_ HN_ HB_
          try clear w_
          rename World => w_
          go_wp2_with (first | (with_reducible refine wpl_storeb (o := ⟨none, .store _ _ _, _, _, _, _⟩) rfl rfl row_tout HC_.out rfl rfl (outV_len noOut_ok) HIL.out HI1.out ?_))
          intro w2_ hb2_ hg2_ hsz2_
          have HC_ := Lib.hid hb2_
          have HW_ := Lib.hid (grownBy_new HW.out hg2_ HI_n.out)
          have HE_ := Lib.hid (HE.out.off hg2_ (.inr HI_b.out))
          clear hb2_ hg2_ hsz2_ HW HE 
          have HW := HW_; have HE := HE_; have HC := HC_
          clear HW_ HE_ HC_
          try clear w_
          rename World => w_
          go_wp2_with fail
          refine (enum_any (most := 18446744073709551615) _ HE.out).mono ?_
          rintro e w2_ hr_
          obtain ⟨hg_, ⟨x_, hx_, rfl⟩ | ⟨v3, l3, hx_, rfl, hE_⟩⟩ := hr_.get
          · have HX_ := Lib.hid hx_
            have HW_ := Lib.hid (grownBy_trans HW.out hg_)
            clear hr_ hx_ hg_
            go_wp2_with fail
            exact ⟨by first | trivial | rfl, HERR.out x_ _ (HSTEP.out x_ (by rw [← HRI0.out, HRI.out, HX_.out])) (grownBy_trans HG0.out HW_.out)⟩
          have HX3 := Lib.hid hx_
          replace HW := Lib.hid (grownBy_trans HW.out hg_)
          have HRI_ := HRI.out
          rw [hx_] at HRI_
          simp only at HRI_
          replace HRI := Lib.hid HRI_
          clear HRI_
          replace HC := Lib.hid (Blk.grown HC.out hg_ (fun e => by injection e with e; have := HI_b.out; have h9 := HE.out.bd; omega))
          replace HE := Lib.hid hE_
          try clear hr_
          clear hx_ hE_ hg_
          try clear w_
          rename World => w_
          go_wp2_with (first | (refine wpl_store1 (o := ⟨none, .store _ _ _, _, _, _, _⟩) rfl rfl HC.out rfl rfl (by kernel_rfl) rfl rfl (by rw [HIL.out]; omega) ?_))
          intro w2_ hb2_ hg2_ hsz2_
          have HC_ := Lib.hid hb2_
          have HW_ := Lib.hid (grownBy_new HW.out hg2_ HI_n.out)
          have HE_ := Lib.hid (HE.out.off hg2_ (.inr HI_b.out))
          clear hb2_ hg2_ hsz2_ HW HE 
          have HW := HW_; have HE := HE_; have HC := HC_
          clear HW_ HE_ HC_
          try clear w_
          rename World => w_
          have HCI := Lib.hid (show Blk w_ gi 43 (outV ⟨v1, (v3 : Int)⟩) by rw [← HSET.out (v3 : Int)]; exact HC.out)
          have HIK := Lib.hid (show (⟨v1, (v3 : Int)⟩ : Outp).ok from ⟨HDL.out, by have := numR_le HX3.out; unfold U64; simp only; omega⟩)
          have HIV := Lib.hid (show Cl 33 (outV ⟨v1, (v3 : Int)⟩) from ⟨outV_len HIK.out, out_one⟩)
          obtain ⟨iv, hiv⟩ : ∃ q, q = outV ⟨v1, (v3 : Int)⟩ := ⟨_, rfl⟩
          have HIE := Lib.hid hiv
          rw [← hiv] at HCI HIV
          clear hiv HC HIL HI1 HSET TO
          have HV := Lib.hid (HV0.out.grown HW.out (fun e => by injection e with e; exact HQ.out e))
          have HO := Lib.hid (OutsO.keep HO0.out (fun b hb hlt => HW.out.block b hlt (fun e => by injection e with e; have := HGV.out; have := HZ.out; have := HZZ.out; omega)))
          have HG := Lib.hid (grownBy_trans HG0.out HW.out)
          have HSZ := Lib.hid (Nat.le_trans HZW0.out HW.out.size)
          have HKZ := Lib.hid (show ∀ b, Z ≤ b → b < Z2 → w_.heap[b]? = wz.heap[b]? from fun b h1 h2 => (HW.out.block b (by have := HZW0.out; omega) (fun e => by injection e with e; have := HGV.out; have := HZ.out; omega)).trans (HKZ0.out b h1 h2))
          clear HW HV0 HO0 HG0 HKZ0
          have c1 := HV.out.at_ (i := 1) rfl
          go_wp2_with (first | (with_reducible refine wpl_loadb (o := ⟨some 41, _, _, _, _, _⟩) rfl rfl row_tout HCI.out rfl HIV.out.len ?_) | (refine wpl_row1 (o := ⟨some 42, .buildSlice _ _ _, _, _, _, _⟩) rfl rfl el_tout (by first | rfl | (go_simp; done)) HIV.out.len (by omega) ?_))
          intro w2_ hb2_ hb_ hsz2_
          have HSX := Lib.hid (show Sl w2_ w2_.heap.size 33 (some ⟨w_.heap.size, 0, none⟩) 1 iv from hb2_.sl (by rw [HIV.out.len]))
          generalize w_.heap.size = gx at HSX ⊢
          have HV_ := Lib.hid (HV.out.grow hb_); have HE_ := Lib.hid (HE.out.grow hb_); have HG_ := Lib.hid (grownBy_grow HG.out hb_); have HO_ := Lib.hid (HO.out.keep (fun b _ hb => hb_.block b hb)); have HKZ_ := Lib.hid (show ∀ b, Z ≤ b → b < Z2 → w2_.heap[b]? = wz.heap[b]? from fun b h1 h2 => (hb_.block b (by have := HSZ.out; omega)).trans (HKZ.out b h1 h2)); have HSZ_ := Lib.hid (Nat.le_trans HSZ.out hb_.size)
          clear hb2_ hb_ hsz2_ c1 HV HE HG HO HKZ HSZ HCI
          have HV := HV_; have HE := HE_; have HG := HG_; have HO := HO_; have HKZ := HKZ_; have HSZ := HSZ_
          clear HV_ HE_ HG_ HO_ HKZ_ HSZ_
          try clear w_
          rename World => w_
          have hn16 := HM16.out
          go_wp2_with (at_builtin; refine wpl_apps rfl rfl el_tout HO.out.1 rfl HSX.out rfl HIV.out.one (by omega) (by omega) HSZ.out ?_)
          intro A4 c4 w2_ ho_ hg_ hA_
          clear hn16
          have hne_ : ∀ q, A2.map Addr.block = some q → Z2 ≤ q := own_from HO.out.1
          have HV_ := Lib.hid (HV.out.grown hg_ (fun e => by have h1 := hne_ _ e.symm; have := HZ.out; have := HZZ.out; omega))
          have HE_ := Lib.hid (HE.out.row hg_ hne_ (by have := HBZ.out; have := HZZ.out; omega))
          have HG_ := Lib.hid (grownBy_row HG.out hg_ hne_ (by have := HN.out; have := HZ.out; have := HZZ.out; omega))
          have HO_ := Lib.hid (show OutsO w2_ Z2 A4 (j + 1) c4 (os ++ [⟨v1, (v3 : Int)⟩]) from OutsO.snoc HO.out (by rw [← HIE.out]; exact ho_) HIK.out)
          have HKZ_ := Lib.hid (show ∀ b, Z ≤ b → b < Z2 → w2_.heap[b]? = wz.heap[b]? from fun b h1 h2 => (hg_.block b (by have := HSZ.out; omega) (fun e => by have h3 := hne_ _ e.symm; omega)).trans (HKZ.out b h1 h2))
          have HSZ_ := Lib.hid (Nat.le_trans HSZ.out hg_.size)
          clear ho_ hg_ hA_ hne_ HV HE HG HO HKZ HSZ HSX
          have HV := HV_; have HE := HE_; have HG := HG_; have HO := HO_; have HKZ := HKZ_; have HSZ := HSZ_
          clear HV_ HE_ HG_ HO_ HKZ_ HSZ_
          try clear w_
          rename World => w_
          go_wp2_with (first | (refine wpl_store1 (o := ⟨none, .store _ _ _, _, _, _, _⟩) rfl rfl HV.out rfl rfl (by kernel_rfl) rfl rfl (by simp [txV]) ?_))
          intro w2_ hb2_ hg2_ hsz2_
          have HV_ := Lib.hid (show Blk w2_ gv 28 (txV A k c A4 (j + 1) c4 0 0) from hb2_)
          have HE_ := Lib.hid (HE.out.off hg2_ (.inr HL.out))
          have HG_ := Lib.hid (grownBy_new HG.out hg2_ HN.out)
          have HO_ := Lib.hid (HO.out.keep (fun b hb hlt => hg2_.block b hlt (fun e => by injection e with e; have := HZ.out; have := HZZ.out; omega)))
          have HKZ_ := Lib.hid (show ∀ b, Z ≤ b → b < Z2 → w2_.heap[b]? = wz.heap[b]? from fun b h1 h2 => (hg2_.block b (by have := HSZ.out; omega) (fun e => by injection e with e; have := HZ.out; omega)).trans (HKZ.out b h1 h2))
          have HSZ_ := Lib.hid (Nat.le_trans HSZ.out hg2_.size)
          have HI_ := Lib.hid (show lookN lookO (j + 1) lm = .ok (os ++ [(⟨v1, (v3 : Int)⟩ : Outp)], l3) by rw [lookN_snoc, HI.out]; simp only; rw [← HRI0.out, HRI.out])
          clear hb2_ hg2_ hsz2_
          have q1 := HQ1.out
          go_wp2_with fail
          go_roundw
          all_goals clear q1
          case rel => exact ⟨j + 1, A4, c4, _, _, by omega, by first | go_num | simp | rfl, HI_, HE_, HV_, HO_, HG_, HKZ_, HSZ_⟩
          case measure => simp [intOf]; omega
        · obtain rfl : j = vm := by omega
          have HR_ := HR.out
          rw [HI.out] at HR_
          simp only at HR_
          replace HR := Lib.hid HR_
          clear HR_
          have HOI := Lib.hid (InsO.keep HOZ.out (fun b hb hlt => HKZ.out b hb (by rw [HZ2.out]; exact hlt)))
          clear HKZ HOZ
          go_wp2_with fail
          refine (enum_any (most := 18446744073709551615) _ HE.out).mono ?_
          rintro e w2_ hr_
          obtain ⟨hg_, ⟨x_, hx_, rfl⟩ | ⟨vf, lf, hx_, rfl, hE_⟩⟩ := hr_.get
          · have HX_ := Lib.hid hx_
            have HG_ := Lib.hid (grownBy_trans HG.out hg_)
            clear hr_ hx_ hg_
            go_wp2_with fail
            exact ⟨by first | trivial | rfl, HERR.out x_ _ (by rw [HR.out, HX_.out]) HG_.out⟩
          replace HOI := Lib.hid (HOI.out.keep (fun b hb hlt => hg_.block b hlt (fun e => by injection e with e; have := HGV.out; have := HZ.out; have := HZZ.out; omega)))
          replace HO := Lib.hid (HO.out.keep (fun b hb hlt => hg_.block b hlt (fun e => by injection e with e; have := HGV.out; have := HZ.out; have := HZZ.out; omega)))
          have HXf := Lib.hid hx_
          replace HG := Lib.hid (grownBy_trans HG.out hg_)
          have HR_ := HR.out
          rw [hx_] at HR_
          simp only at HR_
          replace HR := Lib.hid HR_
          clear HR_
          replace HV := Lib.hid (Blk.grown HV.out hg_ (fun e => by injection e with e; have := HQ.out; omega))
          replace HE := Lib.hid hE_
          try clear hr_
          clear hx_ hE_ hg_
          try clear w_
          rename World => w_
          go_wp2_with (first | (refine wpl_store1 (o := ⟨none, .store _ _ _, _, _, _, _⟩) rfl rfl HV.out rfl rfl (by kernel_rfl) rfl rfl (by simp [txV]) ?_))
          intro w2_ hb2_ hg2_ hsz2_
          have HV_ := Lib.hid (show Blk w2_ gv 28 (txV A k c A2 j c2 (vf : Int) 0) from hb2_)
          have HE_ := Lib.hid (HE.out.off hg2_ (.inr HL.out))
          have HG_ := Lib.hid (grownBy_new HG.out hg2_ HN.out)
          replace HOI := Lib.hid (HOI.out.keep (fun b hb hlt => hg2_.block b hlt (fun e => by injection e with e; have := HZ.out; have := HZZ.out; omega)))
          replace HO := Lib.hid (HO.out.keep (fun b hb hlt => hg2_.block b hlt (fun e => by injection e with e; have := HZ.out; have := HZZ.out; omega)))
          clear hb2_ hg2_ hsz2_ HV HE HG
          have HV := HV_; have HE := HE_; have HG := HG_
          clear HV_ HE_ HG_
          try clear w_
          rename World => w_
          go_wp2_with fail
          refine (enum_any (most := 1099511627776) _ HE.out).mono ?_
          rintro e w2_ hr_
          obtain ⟨hg_, ⟨x_, hx_, rfl⟩ | ⟨ve, le, hx_, rfl, hE_⟩⟩ := hr_.get
          · have HX_ := Lib.hid hx_
            have HG_ := Lib.hid (grownBy_trans HG.out hg_)
            clear hr_ hx_ hg_
            go_wp2_with fail
            exact ⟨by first | trivial | rfl, HERR.out x_ _ (by rw [HR.out, HX_.out]) HG_.out⟩
          replace HOI := Lib.hid (HOI.out.keep (fun b hb hlt => hg_.block b hlt (fun e => by injection e with e; have := HGV.out; have := HZ.out; have := HZZ.out; omega)))
          replace HO := Lib.hid (HO.out.keep (fun b hb hlt => hg_.block b hlt (fun e => by injection e with e; have := HGV.out; have := HZ.out; have := HZZ.out; omega)))
          have HXe := Lib.hid hx_
          replace HG := Lib.hid (grownBy_trans HG.out hg_)
          have HR_ := HR.out
          rw [hx_] at HR_
          simp only at HR_
          replace HR := Lib.hid HR_
          clear HR_
          replace HV := Lib.hid (Blk.grown HV.out hg_ (fun e => by injection e with e; have := HQ.out; omega))
          replace HE := Lib.hid hE_
          try clear hr_
          clear hx_ hE_ hg_
          try clear w_
          rename World => w_
          have q2 : IntKind.i64.wrap (ve : Int) = (ve : Int) := IntWalk.i64_in _ (by have := numR_le HXe.out; omega)
          go_wp2_with (first | (refine wpl_store1 (o := ⟨none, .store _ _ _, _, _, _, _⟩) rfl rfl HV.out rfl rfl (by kernel_rfl) rfl rfl (by simp [txV]) ?_))
          intro w2_ hb2_ hg2_ hsz2_
          have HV_ := Lib.hid (show Blk w2_ gv 28 (txV A k c A2 j c2 (vf : Int) (ve : Int)) from hb2_)
          have HE_ := Lib.hid (HE.out.off hg2_ (.inr HL.out))
          have HG_ := Lib.hid (grownBy_new HG.out hg2_ HN.out)
          replace HOI := Lib.hid (HOI.out.keep (fun b hb hlt => hg2_.block b hlt (fun e => by injection e with e; have := HZ.out; have := HZZ.out; omega)))
          replace HO := Lib.hid (HO.out.keep (fun b hb hlt => hg2_.block b hlt (fun e => by injection e with e; have := HZ.out; have := HZZ.out; omega)))
          clear hb2_ hg2_ hsz2_ HV HE HG
          have HV := HV_; have HE := HE_; have HG := HG_
          clear HV_ HE_ HG_
          try clear w_
          rename World => w_
          clear q2
          have HTC := Lib.hid (txV_cl (A := A) (n := k) (c := c) (A2 := A2) (n2 := j) (c2 := c2) (fee := (vf : Int)) (ex := (ve : Int)))
          obtain ⟨tv, htv⟩ : ∃ q, q = txV A k c A2 j c2 (vf : Int) (ve : Int) := ⟨_, rfl⟩
          have HTV := Lib.hid htv
          rw [← htv] at HV HTC
          clear htv
          go_wp2_with (first | (with_reducible refine wpl_loadb (o := ⟨some 53, _, _, _, _, _⟩) rfl rfl row_tx HV.out rfl HTC.out.len ?_) | (with_reducible refine wpl_storeb (o := ⟨none, .store _ _ _, _, _, _, _⟩) rfl rfl row_tx HV.out rfl rfl HTC.out.len HTC.out.len HTC.out.one ?_))
          intro w2_ hb2_ hg2_ hsz2_
          have HG_ := Lib.hid (grownBy_new HG.out hg2_ HN.out)
          have HE_ := Lib.hid (HE.out.off hg2_ (.inr HL.out))
          have HV_ := Lib.hid hb2_
          replace HOI := Lib.hid (HOI.out.keep (fun b hb hlt => hg2_.block b hlt (fun e => by injection e with e; have := HZ.out; have := HZZ.out; omega)))
          replace HO := Lib.hid (HO.out.keep (fun b hb hlt => hg2_.block b hlt (fun e => by injection e with e; have := HZ.out; have := HZZ.out; omega)))
          clear hb2_ hg2_ hsz2_ HG HE HV
          go_wp2_with fail
          refine ret_cell rfl row_tx HV_.out rfl HTC.out.len rfl ?_
          exact ⟨HG_.out, .inr ⟨⟨ls.map Prod.snd, os, (vf : Int), (ve : Int)⟩, le, A, k, c, A2, j, c2, by rw [← HRES.out, HR.out], by rw [HTV.out], ⟨⟨ls, rfl, HOI.out.base (by have := HN.out; have := HZ.out; omega)⟩, HO.out.base (by have := HN.out; have := HZ.out; have := HZZ.out; omega)⟩, HE_.out⟩⟩
end Go.Proofs.Ytphmefhnffoafaa

/- Contracts of tx.isLong and slices.Contains. -/
namespace Go.Proofs.Ytphmefhnffoafaa
open Go.RowKit Go.Shelf
set_option linter.unusedVariables false
theorem twithin_any (a b c : Int) (w : World) : Calls Try.prog 32 #[.int .i64 a, .int .i64 b, .int .i64 c] w fun e w' => e = .returned (.bool (inB a b c)) ∧ w = w' := by
  obtain ⟨p, hp⟩ : ∃ p, decide (b ≤ a) = p := ⟨_, rfl⟩
  obtain ⟨q, hq⟩ : ∃ q, decide (a ≤ c) = q := ⟨_, rfl⟩
  have HR := Lib.hid (show inB a b c = (p && q) by unfold inB; rw [← hp, ← hq])
  rw [HR.out]
  clear HR
  go_enter Try.func32, Try.ntmps32
  cases p <;> cases q <;> (go_wp2; go_ret; exact ⟨rfl, rfl⟩)
set_option maxRecDepth 100000 in
theorem long1_any {w : World} {pv : List Value} {A : Option Addr} {c : Nat} {i : Inp} (hp : pv = inV (.slice A i.secret.length c) i) (hk : i.ok) (w : World) :
    Calls Try.prog 34 #[.agg pv.toArray] w fun e w' => e = .returned (.bool (longI i)) ∧ Grow w w' := by
  have HPC := Lib.hid (show Cl 35 pv from ⟨by rw [hp]; exact inV_len hk, fun u hu => by
    rw [hp] at hu
    unfold inV at hu
    simp only [List.mem_append, List.mem_map, List.mem_cons, List.not_mem_nil, or_false] at hu
    rcases hu with ⟨_, _, rfl⟩ | rfl | rfl | rfl <;> rfl⟩)
  obtain ⟨n, hn⟩ : ∃ n, n = i.secret.length := ⟨_, rfl⟩
  obtain ⟨ix, hix⟩ : ∃ n, n = i.index := ⟨_, rfl⟩
  have H34 := Lib.hid (show pv[34]? = some (.slice A n c) by rw [hp, hn]; exact (in_at hk).2.2)
  have H32 := Lib.hid (show pv[32]? = some (.int .i64 ix) by rw [hp, hix]; exact (in_at hk).1)
  obtain ⟨p, hpp⟩ : ∃ p, decide ((64 : Int) < (n : Int)) = p := ⟨_, rfl⟩
  obtain ⟨q, hq⟩ : ∃ q, inB ix 0 15 = q := ⟨_, rfl⟩
  have HQ := Lib.hid (fun w => twithin_any ix 0 15 w)
  rw [hq] at HQ
  have HR := Lib.hid (show longI i = (p || !q) by unfold longI; rw [← hpp, ← hq, hn, hix]; congr 1; rw [Bool.eq_iff_iff]; simp; omega)
  rw [HR.out]
  clear HR hp hn hix hq
  obtain ⟨w_, hw⟩ : ∃ x, x = w := ⟨_, rfl⟩
  have HB := Lib.hid (show Below w.heap.size w w_ by rw [hw]; exact Below.refl _ _)
  suffices H : Calls Try.prog 34 #[.agg pv.toArray] w_ fun e w' => e = .returned (.bool (p || !q)) ∧ Grow w w' by rw [hw] at H; exact H
  clear hw
  go_enter Try.func34, Try.ntmps34
  go_wp2_with (first | (with_reducible refine wpl_box (o := ⟨some 1, _, _, _, _, _⟩) rfl rfl rfl ?_))
  intro w2_ hb2_ hb_ hsz2_
  have HX_ := Lib.hid (at_mk hb2_ HPC.out.len)
  clear hb2_ hsz2_
  have HG_ := Lib.hid HB.out.size
  have HB_ := Lib.hid (HB.out.grow' hb_)
  clear HB
  have HB := HB_
  clear HB_
  generalize hg_ : w_.heap.size = g1 at HX_ HG_ ⊢
  clear hg_
  have HX_g := HG_
  clear HG_
  have HX := HX_
  clear hb_ HX_
  try clear w_
  rename World => w_
  have c34 := HX.out.blk.at_ H34.out
  have c32 := HX.out.blk.at_ H32.out
  cases p with
  | true =>
    go_wp2_with fail
    go_ret
    exact ⟨rfl, HB.out⟩
  | false =>
    go_wp2_with fail
    refine (HQ.out _).mono ?_
    rintro e w2_ ⟨rfl, rfl⟩
    go_wp2_with fail
    go_ret
    exact ⟨by first | rfl | simp, HB.out⟩
theorem any_take {α : Type} (f : α → Bool) {l : List α} {k : Nat} {p : α} (h : l[k]? = some p) : (l.take (k + 1)).any f = ((l.take k).any f || f p) := by
  rw [take_snoc h, List.any_append]; simp
set_option maxRecDepth 100000 in
set_option maxHeartbeats 2000000 in
theorem indexf_any {A : Option Addr} {n c : Nat} {l : List (Value × Inp)} (w : World) (hi : InsAt w A n c l) (hn : n ≤ 1000000) :
    Calls Try.prog 44 #[.slice A n c, .func (.func 34) #[] #[]] w fun e w' => ∃ r : Int, e = .returned (.int .i64 r) ∧ (0 ≤ r ↔ (l.map Prod.snd).any longI = true) ∧ Grow w w' := by
  have HI := Lib.hid hi
  obtain ⟨w_, hw⟩ : ∃ x, x = w := ⟨_, rfl⟩
  have HB := Lib.hid (show Below w.heap.size w w_ by rw [hw]; exact Below.refl _ _)
  suffices H : Calls Try.prog 44 #[.slice A n c, .func (.func 34) #[] #[]] w_ fun e w' => ∃ r : Int, e = .returned (.int .i64 r) ∧ (0 ≤ r ↔ (l.map Prod.snd).any longI = true) ∧ Grow w w' by rw [hw] at H; exact H
  clear hw hi
  go_enter Try.func44, Try.ntmps44
  go_wp2_with fail
  go_loopw [8] (fun iv wr => ∃ k : Nat, k ≤ n ∧ iv = .int .i64 k ∧ Hid (((l.map Prod.snd).take k).any longI = false ∧ Below w.heap.size w wr)) (fun iv _ => n - (intOf iv).toNat)
  case atStart => exact ⟨0, by omega, rfl, Lib.hid ⟨by simp, HB.out⟩⟩
  case round =>
    obtain ⟨k, hk, rfl, hI⟩ := hrel
    clear HB
    have HN := Lib.hid hI.out.1; have HB := Lib.hid hI.out.2
    clear hI
    rename World => w_
    by_cases hlt : k < n
    · have HII := Lib.hid (HI.out.grow HB.out)
      obtain ⟨b, off, p, rfl, hp, hok, hc⟩ := HII.out.at_ hlt
      have HC := Lib.hid hc
      have HPC := Lib.hid (inV_cl hok)
      obtain ⟨A4, c4, e4, _, _⟩ := hok.1
      have HL := Lib.hid (fun w => long1_any (w := w) (pv := inV p.1 p.2) (A := A4) (c := c4) (by rw [e4]) hok.2 w)
      have HSN := Lib.hid (any_take longI (l := l.map Prod.snd) (k := k) (p := p.2) (by rw [List.getElem?_map, hp]; rfl))
      have HME := Lib.hid (show p.2 ∈ l.map Prod.snd from List.mem_map_of_mem (List.mem_of_getElem? hp))
      obtain ⟨pv, hpv⟩ : ∃ q, q = inV p.1 p.2 := ⟨_, rfl⟩
      rw [← hpv] at HC HPC HL
      obtain ⟨lg, hlg⟩ : ∃ q, q = longI p.2 := ⟨_, rfl⟩
      have HLG := Lib.hid hlg
      rw [← hlg] at HL HSN
      clear hp hok hc hpv hlg e4 HII
      go_wp2_with (first | (with_reducible refine wpl_loadm (o := ⟨some 15, _, _, _, _, _⟩) rfl rfl row_tin HC.out rfl HPC.out.len ?_))
      refine (HL.out _).mono ?_
      rintro e w2_ ⟨rfl, hb_⟩
      have HB_ := Lib.hid (HB.out.grow' hb_)
      clear hb_ HB HL
      cases lg with
      | true =>
        go_wp2_with fail
        go_ret
        exact ⟨_, rfl, ⟨fun _ => List.any_eq_true.2 ⟨_, HME.out, HLG.out.symm⟩, fun _ => by omega⟩, HB_.out⟩
      | false =>
        go_wp2_with fail
        go_roundw
        case rel => exact ⟨k + 1, by omega, by go_num, Lib.hid ⟨by rw [HSN.out, HN.out]; rfl, HB_.out⟩⟩
        case measure => simp [intOf]; omega
    · obtain rfl : k = n := by omega
      have HAN := Lib.hid (show (l.map Prod.snd).any longI = false by have h := HN.out; rw [List.take_of_length_le (by rw [List.length_map]; have := HI.out.2.2.1; omega)] at h; exact h)
      go_wp2_with fail
      go_ret
      exact ⟨_, rfl, ⟨fun h => by omega, fun h => by rw [HAN.out] at h; cases h⟩, HB.out⟩
theorem containsf_any {A : Option Addr} {n c : Nat} {l : List (Value × Inp)} (w : World) (hi : InsAt w A n c l) (hn : n ≤ 1000000) :
    Calls Try.prog 33 #[.slice A n c, .func (.func 34) #[] #[]] w fun e w' => e = .returned (.bool ((l.map Prod.snd).any longI)) ∧ Grow w w' := by
  have HI := Lib.hid hi
  have HX := Lib.hid (fun w h => indexf_any (A := A) (n := n) (c := c) (l := l) w h hn)
  obtain ⟨q, hq⟩ : ∃ q, q = (l.map Prod.snd).any longI := ⟨_, rfl⟩
  rw [← hq] at HX ⊢
  clear hi hq
  go_enter Try.func33, Try.ntmps33
  go_wp2_with fail
  refine (HX.out _ HI.out).mono ?_
  rintro e w2_ ⟨r, rfl, hr, hb⟩
  have HB := Lib.hid hb
  cases q with
  | true =>
    have d0 : decide ((0 : Int) ≤ r) = true := by simpa using hr
    have h0 : 0 ≤ r := by simpa using hr
    clear hr hb
    go_wp2_with fail
    go_ret
    exact ⟨by first | rfl | simp, HB.out⟩
  | false =>
    have h0 : ¬ 0 ≤ r := by simpa using hr
    have d0 : decide ((0 : Int) ≤ r) = false := by simpa using h0
    clear hr hb
    go_wp2_with fail
    go_ret
    exact ⟨by first | rfl | simp, HB.out⟩
set_option maxRecDepth 100000 in
set_option maxHeartbeats 2000000 in
theorem islong_any {A : Option Addr} {n c : Nat} {A2 : Option Addr} {n2 c2 : Nat} {fee ex : Int} {l : List (Value × Inp)} {os : List Outp} (w : World) (hi : InsAt w A n c l) (hos : os.length = n2) (hn : n ≤ 1000000) (hn2 : n2 ≤ 1000000) (hex : I64 ex) :
    Calls Try.prog 19 #[.agg (txV A n c A2 n2 c2 fee ex).toArray] w fun e w' => e = .returned (.bool (longT ⟨l.map Prod.snd, os, fee, ex⟩)) ∧ Grow w w' := by
  have HI := Lib.hid hi
  have HTC := Lib.hid (txV_cl (A := A) (n := n) (c := c) (A2 := A2) (n2 := n2) (c2 := c2) (fee := fee) (ex := ex))
  have HT0 := Lib.hid (show (txV A n c A2 n2 c2 fee ex)[0]? = some (.slice A n c) from rfl)
  have HT1 := Lib.hid (show (txV A n c A2 n2 c2 fee ex)[1]? = some (.slice A2 n2 c2) from rfl)
  have HT3 := Lib.hid (show (txV A n c A2 n2 c2 fee ex)[3]? = some (.int .i64 ex) from rfl)
  obtain ⟨tv, htv⟩ : ∃ q, q = txV A n c A2 n2 c2 fee ex := ⟨_, rfl⟩
  rw [← htv] at HTC HT0 HT1 HT3 ⊢
  obtain ⟨p, hp⟩ : ∃ p, inB (n : Int) 1 16 = p := ⟨_, rfl⟩
  obtain ⟨q, hq⟩ : ∃ p, inB (n2 : Int) 1 16 = p := ⟨_, rfl⟩
  obtain ⟨r, hr⟩ : ∃ p, inB ex 0 1099511627776 = p := ⟨_, rfl⟩
  have W1 := Lib.hid (fun w => twithin_any (n : Int) 1 16 w); have W2 := Lib.hid (fun w => twithin_any (n2 : Int) 1 16 w); have W3 := Lib.hid (fun w => twithin_any ex 0 1099511627776 w)
  rw [hp] at W1
  rw [hq] at W2
  rw [hr] at W3
  have HR := Lib.hid (show longT ⟨l.map Prod.snd, os, fee, ex⟩ = (!(p && q && r) || (l.map Prod.snd).any longI) by unfold longT shortT; simp only [List.length_map]; rw [hi.2.2.1, hos, hp, hq, hr])
  have HCF := Lib.hid (fun w h => containsf_any (A := A) (n := n) (c := c) (l := l) w h hn)
  obtain ⟨z, hz⟩ : ∃ z, z = (l.map Prod.snd).any longI := ⟨_, rfl⟩
  rw [← hz] at HR HCF
  rw [HR.out]
  obtain ⟨w_, hw⟩ : ∃ x, x = w := ⟨_, rfl⟩
  have HB := Lib.hid (show Below w.heap.size w w_ by rw [hw]; exact Below.refl _ _)
  suffices H : Calls Try.prog 19 #[.agg tv.toArray] w_ fun e w' => e = .returned (.bool (!(p && q && r) || z)) ∧ Grow w w' by rw [hw] at H; exact H
  clear hw hi htv hp hq hr hz HR hex hos
  go_enter Try.func19, Try.ntmps19
  go_wp2_with (first | (with_reducible refine wpl_box (o := ⟨some 1, _, _, _, _, _⟩) rfl rfl rfl ?_))
  intro w2_ hb2_ hb_ hsz2_
  have HX_ := Lib.hid (at_mk hb2_ HTC.out.len)
  clear hb2_ hsz2_
  have HG_ := Lib.hid HB.out.size
  have HB_ := Lib.hid (HB.out.grow' hb_)
  clear HB
  have HB := HB_
  clear HB_
  generalize hg_ : w_.heap.size = g1 at HX_ HG_ ⊢
  clear hg_
  have HX_g := HG_
  clear HG_
  have HX := HX_
  clear hb_ HX_
  try clear w_
  rename World => w_
  have c0 := HX.out.blk.at_ HT0.out
  have c1 := HX.out.blk.at_ HT1.out
  have c3 := HX.out.blk.at_ HT3.out
  go_wp2_with fail
  refine (W1.out _).mono ?_
  rintro e w2_ ⟨rfl, rfl⟩
  cases p with
  | false =>
    go_wp2_with fail
    go_ret
    exact ⟨by first | rfl | simp, HB.out⟩
  | true =>
    go_wp2_with fail
    refine (W2.out _).mono ?_
    rintro e w2_ ⟨rfl, rfl⟩
    cases q with
    | false =>
      go_wp2_with fail
      go_ret
      exact ⟨by first | rfl | simp, HB.out⟩
    | true =>
      go_wp2_with fail
      refine (W3.out _).mono ?_
      rintro e w2_ ⟨rfl, rfl⟩
      cases r with
      | false =>
        go_wp2_with fail
        go_ret
        exact ⟨by first | rfl | simp, HB.out⟩
      | true =>
        go_wp2_with fail
        refine (HCF.out _ (HI.out.grow HB.out)).mono ?_
        rintro e w2_ ⟨rfl, hb_⟩
        have HB_ := Lib.hid (HB.out.grow' hb_)
        go_wp2_with fail
        go_ret
        exact ⟨by first | rfl | simp, HB_.out⟩
set_option maxRecDepth 100000 in
set_option maxHeartbeats 2000000 in
theorem index64_any {A : Option Addr} {n c : Nat} {zs : List Int} {x : Int} (w : World) (hs : Sl w w.heap.size 1 A n (zs.map (Value.int .u64))) (hn : n ≤ 1000000) :
    Calls Try.prog 35 #[.slice A n c, .int .u64 x] w fun e w' => ∃ r : Int, e = .returned (.int .i64 r) ∧ (0 ≤ r ↔ x ∈ zs) ∧ w = w' := by
  have HS := Lib.hid hs
  have hl : zs.length = n := by have := hs.len; simpa using this
  have HL := Lib.hid hl
  clear hs hl
  go_enter Try.func35, Try.ntmps35
  go_wp2_with fail
  go_loopw [8] (fun iv wr => ∃ k : Nat, k ≤ n ∧ iv = .int .i64 k ∧ Hid (x ∉ zs.take k) ∧ wr = w) (fun iv _ => n - (intOf iv).toNat)
  case atStart => exact ⟨0, by omega, rfl, Lib.hid (by simp), rfl⟩
  case round =>
    obtain ⟨k, hk, rfl, hnot, rfl⟩ := hrel
    by_cases hlt : k < n
    · obtain ⟨b, off, u, rfl, hb, hu, hc⟩ := HS.out.at_ hlt
      rw [List.getElem?_map] at hu
      obtain ⟨z, hz, rfl⟩ := Option.map_eq_some_iff.1 hu
      have HZ := Lib.hid hz
      have hc1 := hc
      clear hu hz hb hc
      by_cases hxz : x = z
      · subst hxz
        have HME := Lib.hid (List.mem_of_getElem? HZ.out)
        go_wp2_with fail
        go_ret
        exact ⟨_, rfl, ⟨fun _ => HME.out, fun _ => by omega⟩, rfl⟩
      · have d0 : (x == z) = false := by simpa using hxz
        have HNN := Lib.hid (show x ∉ zs.take (k + 1) by rw [take_snoc HZ.out]; simp only [List.mem_append, List.mem_cons, List.not_mem_nil, or_false]; rintro (h | h); exact hnot.out h; exact hxz h)
        clear hxz
        go_wp2_with fail
        go_roundw
        case rel => exact ⟨k + 1, by omega, by go_num, HNN, by first | trivial | rfl⟩
        case measure => simp [intOf]; omega
    · obtain rfl : k = n := by omega
      have HNA := Lib.hid (show x ∉ zs by have h := hnot.out; rw [List.take_of_length_le (by have := HL.out; omega)] at h; exact h)
      go_wp2_with fail
      go_ret
      exact ⟨_, rfl, ⟨fun h => by omega, fun h => absurd h HNA.out⟩, rfl⟩
theorem contains64_any {A : Option Addr} {n c : Nat} {zs : List Int} {x : Int} (w : World) (hs : Sl w w.heap.size 1 A n (zs.map (Value.int .u64))) (hn : n ≤ 1000000) :
    Calls Try.prog 21 #[.slice A n c, .int .u64 x] w fun e w' => e = .returned (.bool (zs.contains x)) ∧ w = w' := by
  have HX := Lib.hid (index64_any (A := A) (n := n) (c := c) (zs := zs) (x := x) w hs hn)
  obtain ⟨q, hq⟩ : ∃ q, q = zs.contains x := ⟨_, rfl⟩
  have HQ := Lib.hid (show q = true ↔ x ∈ zs by rw [hq]; exact List.contains_iff_mem)
  rw [← hq]
  clear hs hq
  go_enter Try.func21, Try.ntmps21
  go_wp2_with fail
  refine HX.out.mono ?_
  rintro e w2_ ⟨r, rfl, hr, rfl⟩
  rw [← HQ.out] at hr
  cases q with
  | true =>
    have h0 : 0 ≤ r := by simpa using hr
    have d0 : decide ((0 : Int) ≤ r) = true := by simpa using h0
    clear hr
    go_wp2_with fail
    go_ret
    exact ⟨by first | rfl | simp, rfl⟩
  | false =>
    have h0 : ¬ 0 ≤ r := by simpa using hr
    have d0 : decide ((0 : Int) ≤ r) = false := by simpa using h0
    clear hr
    go_wp2_with fail
    go_ret
    exact ⟨by first | rfl | simp, rfl⟩
end Go.Proofs.Ytphmefhnffoafaa

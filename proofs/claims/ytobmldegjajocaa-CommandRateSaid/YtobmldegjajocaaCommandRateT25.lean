/- The contract of command.look. Printed by mkcmdk.py. -/
import Derived.Test.YtobmldegjajocaaCommandRateT24
import Derived.Test.YtobmldegjajocaaCommandRateT22
import Derived.Test.YtobmldegjajocaaCommandRateT2
set_option linter.unusedSimpArgs false
/- The contract of command.look. Printed by mkcmdk.py. -/
namespace Go.Proofs.Ytobmldegjajocaa
open Go.RowKit Go.Shelf
set_option linter.unusedVariables false
theorem zero_texts : (Try.prog.info? 77).map (·.zero) = some (some (.agg [Value.slice none 0 0, .slice none 0 0].toArray)) := by kernel_rfl
theorem row_texts : RowT Try.prog 77 2 := ⟨_, Try.underlying77, by kernel_rfl, by kernel_rfl⟩
theorem ret_cells2 {P : Program} {fn : Func} {a : Act} {w : World} {p q : Tmp} {ty ty2 : TypeId} (h : fn.results = #[.cell p ty, .cell q ty2]) {n n2 : Nat} (hT : RowT P ty n) (hT2 : RowT P ty2 n2) {g g2 : Nat} {t t2 : TypeId} {cs ds : List Value} (hb : Blk w g t cs) (hb2 : Blk w g2 t2 ds)
    (hp : a.tmps.getD p undef = .pointer (some ⟨g, 0, none⟩)) (hq : a.tmps.getD q undef = .pointer (some ⟨g2, 0, none⟩)) (hn : cs.length = n) (hn2 : ds.length = n2) (hd : a.defers = [])
    {R : Ending → World → Prop} (hR : R (.returned (.tuple #[.agg cs.toArray, .agg ds.toArray])) w) : bodyPost P fn R .ret a w := by
  obtain ⟨d, hu, hdd, hi⟩ := hT
  obtain ⟨d2, hu2, hdd2, hi2⟩ := hT2
  refine bodyPost_ret (v := .tuple #[.agg cs.toArray, .agg ds.toArray]) ?_ hd hR
  have hp' : a.tmps[p]?.getD undef = .pointer (some ⟨g, 0, none⟩) := by simpa using hp
  have hq' : a.tmps[q]?.getD undef = .pointer (some ⟨g2, 0, none⟩) := by simpa using hq
  have hload := run_loadVar_row (P := P) w g t ty cs.toArray (0, 0) d hb hu (by revert hdd; cases d <;> simp) (by rw [hi]; simp [hn])
  have hload2 := run_loadVar_row (P := P) w g2 t2 ty2 ds.toArray (0, 0) d2 hb2 hu2 (by revert hdd2; cases d2 <;> simp) (by rw [hi2]; simp [hn2])
  simp [results, h, hp', hq', asAddr, hload, hload2]
/-- What look's cells hold at its end. -/
def LkI (w wr : World) (res : Rd LkC) (Lo Bd g gv gy Z : Nat) : Prop := ∃ p l' TA tc A n c ps, res = .ok (p, l') ∧ p.m.ok ∧ Blk wr gv 33 (noCW.vs p.m) ∧ Blk wr gy 77 [.slice TA p.t.length tc, .slice A n c] ∧ TxtO wr Z TA tc p.t ∧ BBO wr Z A n c ps ∧ ps.map Prod.snd = p.cs ∧ EyeAt wr Lo Bd g l' ∧ w.grownBy wr (some g)
/-- All is kept but look's two cells. -/
def KpW (w0 : World) (gv gy : Nat) (w : World) : Prop := Kept (fun j => j < w0.heap.size ∧ j ≠ gv ∧ j ≠ gy) w0 w
theorem KpW.grow {w0 w w' : World} {gv gy : Nat} (h : KpW w0 gv gy w) (k : Grow w w') : KpW w0 gv gy w' := Kept.trans h (Kept.of_grow k (fun j hj => Nat.lt_of_lt_of_le hj.1 h.size))
theorem KpW.put {w0 w w' : World} {gv gy q : Nat} (h : KpW w0 gv gy w) (k : w.grownBy w' (some q)) (hq : q = gv ∨ q = gy) : KpW w0 gv gy w' :=
  Kept.trans h (Kept.of_grown k (fun j hj => ⟨Nat.lt_of_lt_of_le hj.1 h.size, fun e => by injection e with e; rcases hq with h | h <;> omega⟩))
def GrB (g : Nat) (w w' : World) : Prop := w.grownBy w' (some g)
theorem GrB.grow {g : Nat} {w w1 w2 : World} (h : GrB g w w1) (k : Grow w1 w2) : GrB g w w2 := grownBy_grow h k
def ZL (Z : Nat) (w : World) : Prop := Z ≤ w.heap.size
theorem ZL.grow {Z : Nat} {w w' : World} (h : ZL Z w) (k : Grow w w') : ZL Z w' := Nat.le_trans h k.size
theorem TxtO.grow {w w' : World} {Z c : Nat} {A : Option Addr} {t : List UInt8} (h : TxtO w Z A c t) (k : Grow w w') : TxtO w' Z A c t := h.keep (fun b _ hb => k.block b hb)
theorem BBO.grow {w w' : World} {Z n c : Nat} {A : Option Addr} {ps : List (Value × List UInt8)} (h : BBO w Z A n c ps) (k : Grow w w') : BBO w' Z A n c ps := h.keep (fun b _ hb => k.block b hb)
theorem set_amount {q : CW} {m : Cmd} (h : m.dest.ok) (a : Int) : (q.vs m).set 38 (.int .u64 a) = q.vs { m with dest := ⟨m.dest.owner, a⟩ } := by
  have hl : (m.dest.owner.map B).length = 32 := by rw [List.length_map]; exact h.1
  have e1 : q.vs m = ((.int .i64 m.kind :: (q.tv m ++ [.slice q.A3 q.n3 q.c3])) ++ m.dest.owner.map B) ++ (.int .u64 m.dest.amount :: .int .i64 m.serial :: .int .i64 m.epoch :: m.id.map B) := by simp [CW.vs, cmdV, outV]
  have e2 : q.vs { m with dest := ⟨m.dest.owner, a⟩ } = ((.int .i64 m.kind :: (q.tv m ++ [.slice q.A3 q.n3 q.c3])) ++ m.dest.owner.map B) ++ (.int .u64 a :: .int .i64 m.serial :: .int .i64 m.epoch :: m.id.map B) := by simp [CW.vs, cmdV, outV, CW.tv]
  have hL : ((Value.int .i64 m.kind :: (q.tv m ++ [.slice q.A3 q.n3 q.c3])) ++ m.dest.owner.map B).length = 38 := by rw [List.length_append, hl]; rfl
  rw [e1, e2, List.set_append, if_neg (by rw [hL]; omega), hL]; rfl
theorem set_owner {q : CW} {m : Cmd} (h : m.dest.ok) {d : List UInt8} (hd : d.length = 32) : splice (q.vs m) 6 (d.map B) = q.vs { m with dest := ⟨d, m.dest.amount⟩ } := by
  have e1 : q.vs m = (.int .i64 m.kind :: (q.tv m ++ [.slice q.A3 q.n3 q.c3])) ++ (m.dest.owner.map B ++ (.int .u64 m.dest.amount :: .int .i64 m.serial :: .int .i64 m.epoch :: m.id.map B)) := by simp [CW.vs, cmdV, outV]
  rw [e1, splice_mid (show (Value.int .i64 m.kind :: (q.tv m ++ [.slice q.A3 q.n3 q.c3])).length = 6 from rfl) (by simp [h.1, hd])]
  simp [CW.vs, cmdV, CW.tv, outV]
set_option maxRecDepth 100000 in
set_option maxHeartbeats 16000000 in
theorem cmlook_any {Lo Bd g : Nat} {l : List UInt8} (w : World) (h : EyeAt w Lo Bd g l) : Calls Try.prog 38 #[.pointer (some ⟨g, 0, none⟩)] w fun e w' => LookedR w w' Lo Bd g l e := by
  have HE := Lib.hid h
  obtain ⟨res, hres⟩ : ∃ r, r = lookCm l := ⟨_, rfl⟩
  have HERR := Lib.hid (fun (x : Nat) (w' : World) (hx : res = .error x) (hg : w.grownBy w' (some g)) => show LookedR w w' Lo Bd g l (.panicked (brk x)) from ⟨hg, .inl ⟨x, by rw [← hres]; exact hx, rfl⟩⟩)
  have HRES := Lib.hid hres
  obtain ⟨gv, hgv⟩ : ∃ q, q = w.heap.size := ⟨_, rfl⟩
  have HN := Lib.hid (show w.heap.size ≤ gv by omega)
  have HNE := Lib.hid hgv
  have HL := Lib.hid (show Bd ≤ gv by have := h.bd; omega)
  have HGV := Lib.hid (show g < gv by have := h.bd; omega)
  obtain ⟨gy, hgy⟩ : ∃ q, q = gv + 1 := ⟨_, rfl⟩
  have HGY := Lib.hid hgy
  obtain ⟨Z, hZ⟩ : ∃ q, q = gv + 2 := ⟨_, rfl⟩
  have HZ := Lib.hid hZ
  clear h hres hZ
  go_enter Try.func38, Try.ntmps38
  go_wp2_with (first | (with_reducible refine wpl_alloc (o := ⟨some 2, _, _, _, _, _⟩) rfl rfl zero_cmd ?_))
  intro w2_ hb2_ hbw_ hsz2_
  rw [← hgv] at hb2_ hsz2_ ⊢
  have HM := Lib.hid hb2_
  have HG := Lib.hid (grown_of_below hbw_ (some g))
  have HE_ := Lib.hid (HE.out.grow hbw_)
  have hsz : w2_.heap.size = gy := by rw [hsz2_, hgy]
  clear hb2_ hbw_ hsz2_ HE hgv hgy
  have HE := HE_
  clear HE_
  try clear w_
  go_wp2_with (first | (with_reducible refine wpl_alloc (o := ⟨some 3, _, _, _, _, _⟩) rfl rfl zero_texts ?_))
  intro w3_ hb2_ hbw_ hsz2_
  try simp only [hsz] at hb2_ hsz2_
  have hbw_ : Grow w2_ w3_ := by first | exact hbw_ | (unfold Grow; rw [hsz]; exact hbw_)
  have HY := Lib.hid hb2_
  have HM_ := Lib.hid (HM.out.grow hbw_)
  have HG_ := Lib.hid (grownBy_grow HG.out hbw_)
  have HE_ := Lib.hid (HE.out.grow hbw_)
  have HZS := Lib.hid (show Z ≤ w3_.heap.size by rw [hsz2_, HGY.out, HZ.out]; omega)
  clear hb2_ hbw_ hsz2_ hsz HM HG HE
  have HM := HM_; have HG := HG_; have HE := HE_
  clear HM_ HG_ HE_
  try clear w2_
  rename World => w_
  go_wp2_with fail
  refine (enum_any (most := 9) _ HE.out).mono ?_
  rintro e w2_ hr_
  obtain ⟨hg_, ⟨x_, hx_, rfl⟩ | ⟨v0, l0, hx_, rfl, hE_⟩⟩ := hr_.get
  · have HX_ := Lib.hid hx_
    have HG_ := Lib.hid (grownBy_trans HG.out hg_)
    clear hr_ hx_ hg_
    go_wp2_with fail
    exact ⟨by first | trivial | rfl, HERR.out x_ _ (by rw [HRES.out]; exact lookCm_noKind HX_.out) HG_.out⟩
  have HX0 := Lib.hid hx_
  replace HG := Lib.hid (grownBy_trans HG.out hg_)
  replace HM := Lib.hid (Blk.grown HM.out hg_ (fun e => by injection e with e; have := HGV.out; have := HGY.out; omega))
  replace HY := Lib.hid (Blk.grown HY.out hg_ (fun e => by injection e with e; have := HGV.out; have := HGY.out; omega))
  replace HE := Lib.hid hE_
  replace HZS := Lib.hid (Nat.le_trans HZS.out hg_.size)
  try clear hr_
  clear hx_ hE_ hg_
  try clear w_
  rename World => w_
  have HR := Lib.hid (show res = _ from HRES.out.trans (lookCm_kind HX0.out))
  have hv0 : v0 ≤ 9 := (numR_le HX0.out).1
  obtain ⟨kz, hkz⟩ : ∃ z : Int, z = (v0 : Int) := ⟨_, rfl⟩
  have HKZ := Lib.hid hkz
  have q1 : IntKind.i64.wrap (v0 : Int) = kz := by rw [hkz]; exact IntWalk.i64_in _ (by omega)
  have HKO := Lib.hid (show (kindC kz).ok from kindC_ok (by rw [hkz]; unfold I64; omega))
  clear hkz
  go_wp2_with (first | (refine wpl_store1 (o := ⟨none, .store _ _ _, _, _, _, _⟩) rfl rfl HM.out rfl rfl (by kernel_rfl) rfl rfl (by rw [len_cmd]; omega) ?_))
  intro w2_ hb2_ hg2_ hsz2_
  have H1_ := Lib.hid (show Blk w2_ gv 33 (noCW.vs (kindC kz)) from hb2_)
  have H2_ := Lib.hid (Blk.grown HY.out hg2_ (fun e => by injection e with e; have := HGY.out; omega))
  have HE_ := Lib.hid (HE.out.off hg2_ (.inr (by have := HL.out; have := HGY.out; omega)))
  have HG_ := Lib.hid (grownBy_new HG.out hg2_ (by have := HN.out; have := HGY.out; omega))
  have HZS_ := Lib.hid (Nat.le_trans HZS.out hg2_.size)
  clear hb2_ hg2_ hsz2_ HM HY HE HG HZS
  have HM := H1_; have HY := H2_; have HE := HE_; have HG := HG_; have HZS := HZS_
  clear H1_ H2_ HE_ HG_ HZS_
  try clear w_
  rename World => w_
  clear q1
  have c0 : w_.cell? ⟨gv, 0, none⟩ = some (.int .i64 kz) := HM.out.at_ (vs_kind noCW (kindC kz))
  go_upto_block 0 with fail
  go_cut [10] from 11 to 63 (fun s10 wr => Hid (LkI w wr res Lo Bd g gv gy Z))
  case first =>
    clear c0
    by_cases h_0 : v0 = 0
    · have y_0 := beq_te (a := kz) (b := 0) (by rw [HKZ.out, h_0]; rfl)
      have HR_ := Lib.hid (show res = .error 25 by rw [HR.out, if_pos h_0])
      clear h_0
      go_wp2_with fail
      refine (efail_any g 25 (by omega) _).mono ?_
      rintro e w2_ ⟨rfl, rfl⟩
      go_wp2_with fail
      exact ⟨by first | trivial | rfl, HERR.out 25 _ HR_.out HG.out⟩
    have y_0 := beq_fe (a := kz) (b := 0) (by rw [HKZ.out]; omega)
    replace HR := Lib.hid (HR.out.trans (if_neg h_0))
    by_cases h_1 : v0 = 1
    · have y_1 := beq_te (a := kz) (b := 1) (by rw [HKZ.out, h_1]; rfl)
      have hk1 : kz = 1 := by rw [HKZ.out, h_1]; rfl
      replace HR := Lib.hid (HR.out.trans (if_pos h_1))
      have HM_ := Lib.hid (show Blk w_ gv 33 (noCW.vs (kindC 1)) by rw [← hk1]; exact HM.out)
      have HKO_ := Lib.hid (show (kindC 1).ok by rw [← hk1]; exact HKO.out)
      clear h_0 h_1 hk1 HM HKO
      have HM := HM_; have HKO := HKO_
      clear HM_ HKO_
      go_wp2_with fail
      refine (enum_any (most := 1099511627776) _ HE.out).mono ?_
      rintro e w2_ hr_
      obtain ⟨hg_, ⟨x_, hx_, rfl⟩ | ⟨v1, l1, hx_, rfl, hE_⟩⟩ := hr_.get
      · have HX_ := Lib.hid hx_
        have HG_ := Lib.hid (grownBy_trans HG.out hg_)
        clear hr_ hx_ hg_
        go_wp2_with fail
        exact ⟨by first | trivial | rfl, HERR.out x_ _ (by rw [HR.out, HX_.out]) HG_.out⟩
      have HX1 := Lib.hid hx_
      replace HG := Lib.hid (grownBy_trans HG.out hg_)
      have HR_ := HR.out
      rw [hx_] at HR_
      simp only at HR_
      replace HR := Lib.hid HR_
      clear HR_
      replace HM := Lib.hid (Blk.grown HM.out hg_ (fun e => by injection e with e; have := HGV.out; have := HGY.out; omega))
      replace HY := Lib.hid (Blk.grown HY.out hg_ (fun e => by injection e with e; have := HGV.out; have := HGY.out; omega))
      replace HE := Lib.hid hE_
      replace HZS := Lib.hid (Nat.le_trans HZS.out hg_.size)
      try clear hr_
      clear hx_ hE_ hg_
      try clear w_
      rename World => w_
      have hs_ := (numR_le HX1.out).1
      have q1 : IntKind.i64.wrap (v1 : Int) = (v1 : Int) := IntWalk.i64_in _ (by omega)
      go_wp2_with (first | (refine wpl_store1 (o := ⟨none, .store _ _ _, _, _, _, _⟩) rfl rfl HM.out rfl rfl (by kernel_rfl) rfl rfl (by rw [vs_len HKO.out]; omega) ?_))
      intro w2_ hb2_ hg2_ hsz2_
      have H1_ := Lib.hid (show Blk w2_ gv 33 (noCW.vs { kindC 1 with serial := (v1 : Int) }) by rw [← set_serial HKO.out.2.2.2.1]; exact hb2_)
      have H2_ := Lib.hid (Blk.grown HY.out hg2_ (fun e => by injection e with e; have := HGY.out; omega))
      have HE_ := Lib.hid (HE.out.off hg2_ (.inr (by have := HL.out; have := HGY.out; omega)))
      have HG_ := Lib.hid (grownBy_new HG.out hg2_ (by have := HN.out; have := HGY.out; omega))
      have HZS_ := Lib.hid (Nat.le_trans HZS.out hg2_.size)
      clear hb2_ hg2_ hsz2_ HM HY HE HG HZS
      have HM := H1_; have HY := H2_; have HE := HE_; have HG := HG_; have HZS := HZS_
      clear H1_ H2_ HE_ HG_ HZS_
      try clear w_
      rename World => w_
      clear q1
      replace HKO := Lib.hid (show ({ kindC 1 with serial := (v1 : Int) } : Cmd).ok from ⟨HKO.out.1, HKO.out.2.1, HKO.out.2.2.1, HKO.out.2.2.2.1, by unfold I64; simp only; omega, HKO.out.2.2.2.2.2⟩)
      go_wp2_with fail
      refine (eid_any _ HE.out).mono ?_
      rintro e w2_ hr_
      obtain ⟨hg_, ⟨x_, hx_, rfl⟩ | ⟨v2, l2, hx_, rfl, hE_⟩⟩ := hr_.get
      · have HX_ := Lib.hid hx_
        have HG_ := Lib.hid (grownBy_trans HG.out hg_)
        clear hr_ hx_ hg_
        go_wp2_with fail
        exact ⟨by first | trivial | rfl, HERR.out x_ _ (by rw [HR.out, HX_.out]) HG_.out⟩
      have HX2 := Lib.hid hx_
      replace HG := Lib.hid (grownBy_trans HG.out hg_)
      have HR_ := HR.out
      rw [hx_] at HR_
      simp only at HR_
      replace HR := Lib.hid HR_
      clear HR_
      replace HM := Lib.hid (Blk.grown HM.out hg_ (fun e => by injection e with e; have := HGV.out; have := HGY.out; omega))
      replace HY := Lib.hid (Blk.grown HY.out hg_ (fun e => by injection e with e; have := HGV.out; have := HGY.out; omega))
      replace HE := Lib.hid hE_
      replace HZS := Lib.hid (Nat.le_trans HZS.out hg_.size)
      try clear hr_
      clear hx_ hE_ hg_
      try clear w_
      rename World => w_
      have HD := Lib.hid (show Cl 32 (v2.map B) from ⟨by rw [List.length_map]; exact (takeR_le HX2.out).1, fun u hu => all_bytes _ u hu⟩)
      have HDL := Lib.hid (takeR_le HX2.out).1
      go_wp2_with (first | (with_reducible refine wpl_storem (o := ⟨none, .store _ _ _, _, _, _, _⟩) rfl rfl row_aid HM.out rfl rfl HD.out.len (by rw [vs_len HKO.out]; omega) HD.out.one ?_))
      intro w2_ hb2_ hg2_ hsz2_
      have H1_ := Lib.hid (show Blk w2_ gv 33 (noCW.vs { kindC 1 with serial := (v1 : Int), dest := ⟨v2, 0⟩ }) by have e_ : splice (noCW.vs { kindC 1 with serial := (v1 : Int) }) 6 (v2.map B) = noCW.vs { kindC 1 with serial := (v1 : Int), dest := ⟨v2, 0⟩ } := set_owner HKO.out.2.2.2.1 HDL.out; rw [← e_]; exact hb2_)
      have H2_ := Lib.hid (Blk.grown HY.out hg2_ (fun e => by injection e with e; have := HGY.out; omega))
      have HE_ := Lib.hid (HE.out.off hg2_ (.inr (by have := HL.out; have := HGY.out; omega)))
      have HG_ := Lib.hid (grownBy_new HG.out hg2_ (by have := HN.out; have := HGY.out; omega))
      have HZS_ := Lib.hid (Nat.le_trans HZS.out hg2_.size)
      clear hb2_ hg2_ hsz2_ HM HY HE HG HZS
      have HM := H1_; have HY := H2_; have HE := HE_; have HG := HG_; have HZS := HZS_
      clear H1_ H2_ HE_ HG_ HZS_
      try clear w_
      rename World => w_
      replace HKO := Lib.hid (show ({ kindC 1 with serial := (v1 : Int), dest := ⟨v2, 0⟩ } : Cmd).ok from ⟨HKO.out.1, HKO.out.2.1, HKO.out.2.2.1, ⟨HDL.out, by unfold U64; simp only; omega⟩, HKO.out.2.2.2.2⟩)
      go_wp2_with fail
      refine (enum_any (most := 4611686018427387904) _ HE.out).mono ?_
      rintro e w2_ hr_
      obtain ⟨hg_, ⟨x_, hx_, rfl⟩ | ⟨v3, l3, hx_, rfl, hE_⟩⟩ := hr_.get
      · have HX_ := Lib.hid hx_
        have HG_ := Lib.hid (grownBy_trans HG.out hg_)
        clear hr_ hx_ hg_
        go_wp2_with fail
        exact ⟨by first | trivial | rfl, HERR.out x_ _ (by rw [HR.out, HX_.out]) HG_.out⟩
      have HX3 := Lib.hid hx_
      replace HG := Lib.hid (grownBy_trans HG.out hg_)
      have HR_ := HR.out
      rw [hx_] at HR_
      simp only at HR_
      replace HR := Lib.hid HR_
      clear HR_
      replace HM := Lib.hid (Blk.grown HM.out hg_ (fun e => by injection e with e; have := HGV.out; have := HGY.out; omega))
      replace HY := Lib.hid (Blk.grown HY.out hg_ (fun e => by injection e with e; have := HGV.out; have := HGY.out; omega))
      replace HE := Lib.hid hE_
      replace HZS := Lib.hid (Nat.le_trans HZS.out hg_.size)
      try clear hr_
      clear hx_ hE_ hg_
      try clear w_
      rename World => w_
      go_wp2_with (first | (refine wpl_store1 (o := ⟨none, .store _ _ _, _, _, _, _⟩) rfl rfl HM.out rfl rfl (by kernel_rfl) rfl rfl (by rw [vs_len HKO.out]; omega) ?_))
      intro w2_ hb2_ hg2_ hsz2_
      have H1_ := Lib.hid (show Blk w2_ gv 33 (noCW.vs { kindC 1 with serial := (v1 : Int), dest := ⟨v2, (v3 : Int)⟩ }) by have e_ : (noCW.vs { kindC 1 with serial := (v1 : Int), dest := ⟨v2, 0⟩ }).set 38 (.int .u64 (v3 : Int)) = noCW.vs { kindC 1 with serial := (v1 : Int), dest := ⟨v2, (v3 : Int)⟩ } := set_amount HKO.out.2.2.2.1 (v3 : Int); rw [← e_]; exact hb2_)
      have H2_ := Lib.hid (Blk.grown HY.out hg2_ (fun e => by injection e with e; have := HGY.out; omega))
      have HE_ := Lib.hid (HE.out.off hg2_ (.inr (by have := HL.out; have := HGY.out; omega)))
      have HG_ := Lib.hid (grownBy_new HG.out hg2_ (by have := HN.out; have := HGY.out; omega))
      have HZS_ := Lib.hid (Nat.le_trans HZS.out hg2_.size)
      clear hb2_ hg2_ hsz2_ HM HY HE HG HZS
      have HM := H1_; have HY := H2_; have HE := HE_; have HG := HG_; have HZS := HZS_
      clear H1_ H2_ HE_ HG_ HZS_
      try clear w_
      rename World => w_
      have ha_ := (numR_le HX3.out).2.1
      replace HKO := Lib.hid (show ({ kindC 1 with serial := (v1 : Int), dest := ⟨v2, (v3 : Int)⟩ } : Cmd).ok from ⟨HKO.out.1, HKO.out.2.1, HKO.out.2.2.1, ⟨HDL.out, by unfold U64; simp only; omega⟩, HKO.out.2.2.2.2⟩)
      go_wp2_with fail
      go_meet
      case rel => exact Lib.hid ⟨⟨{ kindC 1 with serial := (v1 : Int), dest := ⟨v2, (v3 : Int)⟩ }, [], []⟩, l3, none, 0, none, 0, 0, [], HR.out, HKO.out, HM.out, HY.out, TxtO.nil _ _, BBO.nil _ _, rfl, HE.out, HG.out⟩
    have y_1 := beq_fe (a := kz) (b := 1) (by rw [HKZ.out]; omega)
    replace HR := Lib.hid (HR.out.trans (if_neg h_1))
    by_cases h_2 : v0 = 2
    · have y_2 := beq_te (a := kz) (b := 2) (by rw [HKZ.out, h_2]; rfl)
      replace HR := Lib.hid (HR.out.trans (if_pos (show v0 = 2 ∨ v0 = 3 by omega)))
      have HM_ := Lib.hid (show Blk w_ gv 33 (noCW.vs (kindC (v0 : Int))) by rw [show ((v0 : Int) : Int) = kz from by rw [HKZ.out]]; exact HM.out)
      have HKO_ := Lib.hid (show (kindC (v0 : Int)).ok by rw [show ((v0 : Int) : Int) = kz from by rw [HKZ.out]]; exact HKO.out)
      clear HM HKO h_2
      have HM := HM_; have HKO := HKO_
      clear HM_ HKO_
      go_wp2_with fail
      refine (etext_any (most := 4096) _ HE.out (by omega)).mono ?_
      rintro e w2_ ⟨hg_, ⟨x_, hx_, rfl⟩ | ⟨v4, l4, A5, c5, hx_, rfl, ho_, hc_, hE_⟩⟩
      · have HX_ := Lib.hid hx_
        have HG_ := Lib.hid (grownBy_trans HG.out hg_)
        clear hx_ hg_
        go_wp2_with fail
        exact ⟨by first | trivial | rfl, HERR.out x_ _ (by rw [HR.out, HX_.out]) HG_.out⟩
      have HT := Lib.hid (show TxtO w2_ Z A5 c5 v4 from ⟨own_base ho_ HZS.out, hc_⟩)
      clear ho_ hc_
      have HX4 := Lib.hid hx_
      replace HG := Lib.hid (grownBy_trans HG.out hg_)
      have HR_ := HR.out
      rw [hx_] at HR_
      simp only at HR_
      replace HR := Lib.hid HR_
      clear HR_
      replace HM := Lib.hid (Blk.grown HM.out hg_ (fun e => by injection e with e; have := HGV.out; have := HGY.out; omega))
      replace HY := Lib.hid (Blk.grown HY.out hg_ (fun e => by injection e with e; have := HGV.out; have := HGY.out; omega))
      replace HE := Lib.hid hE_
      replace HZS := Lib.hid (Nat.le_trans HZS.out hg_.size)
      try clear hr_
      clear hx_ hE_ hg_
      try clear w_
      rename World => w_
      go_wp2_with (first | (refine wpl_store1 (o := ⟨none, .store _ _ _, _, _, _, _⟩) rfl rfl HY.out rfl rfl (by kernel_rfl) rfl rfl (by simp) ?_))
      intro w2_ hb2_ hg2_ hsz2_
      have H1_ := Lib.hid (show Blk w2_ gy 77 [.slice A5 v4.length c5, .slice none 0 0] from hb2_)
      have H2_ := Lib.hid (Blk.grown HM.out hg2_ (fun e => by injection e with e; have := HGY.out; omega))
      have HE_ := Lib.hid (HE.out.off hg2_ (.inr (by have := HL.out; have := HGY.out; omega)))
      have HG_ := Lib.hid (grownBy_new HG.out hg2_ (by have := HN.out; have := HGY.out; omega))
      have HZS_ := Lib.hid (Nat.le_trans HZS.out hg2_.size)
      replace HT := Lib.hid (HT.out.keep (fun b hb hlt => hg2_.block b hlt (fun e => by injection e with e; have := HZ.out; have := HGY.out; omega)))
      clear hb2_ hg2_ hsz2_ HM HY HE HG HZS
      have HY := H1_; have HM := H2_; have HE := HE_; have HG := HG_; have HZS := HZS_
      clear H1_ H2_ HE_ HG_ HZS_
      try clear w_
      rename World => w_
      go_wp2_with fail
      go_meet
      case rel => exact Lib.hid ⟨⟨kindC (v0 : Int), v4, []⟩, l4, A5, c5, none, 0, 0, [], HR.out, HKO.out, HM.out, HY.out, HT.out, BBO.nil _ _, rfl, HE.out, HG.out⟩
    have y_2 := beq_fe (a := kz) (b := 2) (by rw [HKZ.out]; omega)
    by_cases h_3 : v0 = 3
    · have y_3 := beq_te (a := kz) (b := 3) (by rw [HKZ.out, h_3]; rfl)
      replace HR := Lib.hid (HR.out.trans (if_pos (show v0 = 2 ∨ v0 = 3 by omega)))
      have HM_ := Lib.hid (show Blk w_ gv 33 (noCW.vs (kindC (v0 : Int))) by rw [show ((v0 : Int) : Int) = kz from by rw [HKZ.out]]; exact HM.out)
      have HKO_ := Lib.hid (show (kindC (v0 : Int)).ok by rw [show ((v0 : Int) : Int) = kz from by rw [HKZ.out]]; exact HKO.out)
      clear HM HKO h_3
      have HM := HM_; have HKO := HKO_
      clear HM_ HKO_
      go_wp2_with fail
      refine (etext_any (most := 4096) _ HE.out (by omega)).mono ?_
      rintro e w2_ ⟨hg_, ⟨x_, hx_, rfl⟩ | ⟨v4, l4, A5, c5, hx_, rfl, ho_, hc_, hE_⟩⟩
      · have HX_ := Lib.hid hx_
        have HG_ := Lib.hid (grownBy_trans HG.out hg_)
        clear hx_ hg_
        go_wp2_with fail
        exact ⟨by first | trivial | rfl, HERR.out x_ _ (by rw [HR.out, HX_.out]) HG_.out⟩
      have HT := Lib.hid (show TxtO w2_ Z A5 c5 v4 from ⟨own_base ho_ HZS.out, hc_⟩)
      clear ho_ hc_
      have HX4 := Lib.hid hx_
      replace HG := Lib.hid (grownBy_trans HG.out hg_)
      have HR_ := HR.out
      rw [hx_] at HR_
      simp only at HR_
      replace HR := Lib.hid HR_
      clear HR_
      replace HM := Lib.hid (Blk.grown HM.out hg_ (fun e => by injection e with e; have := HGV.out; have := HGY.out; omega))
      replace HY := Lib.hid (Blk.grown HY.out hg_ (fun e => by injection e with e; have := HGV.out; have := HGY.out; omega))
      replace HE := Lib.hid hE_
      replace HZS := Lib.hid (Nat.le_trans HZS.out hg_.size)
      try clear hr_
      clear hx_ hE_ hg_
      try clear w_
      rename World => w_
      go_wp2_with (first | (refine wpl_store1 (o := ⟨none, .store _ _ _, _, _, _, _⟩) rfl rfl HY.out rfl rfl (by kernel_rfl) rfl rfl (by simp) ?_))
      intro w2_ hb2_ hg2_ hsz2_
      have H1_ := Lib.hid (show Blk w2_ gy 77 [.slice A5 v4.length c5, .slice none 0 0] from hb2_)
      have H2_ := Lib.hid (Blk.grown HM.out hg2_ (fun e => by injection e with e; have := HGY.out; omega))
      have HE_ := Lib.hid (HE.out.off hg2_ (.inr (by have := HL.out; have := HGY.out; omega)))
      have HG_ := Lib.hid (grownBy_new HG.out hg2_ (by have := HN.out; have := HGY.out; omega))
      have HZS_ := Lib.hid (Nat.le_trans HZS.out hg2_.size)
      replace HT := Lib.hid (HT.out.keep (fun b hb hlt => hg2_.block b hlt (fun e => by injection e with e; have := HZ.out; have := HGY.out; omega)))
      clear hb2_ hg2_ hsz2_ HM HY HE HG HZS
      have HY := H1_; have HM := H2_; have HE := HE_; have HG := HG_; have HZS := HZS_
      clear H1_ H2_ HE_ HG_ HZS_
      try clear w_
      rename World => w_
      go_wp2_with fail
      go_meet
      case rel => exact Lib.hid ⟨⟨kindC (v0 : Int), v4, []⟩, l4, A5, c5, none, 0, 0, [], HR.out, HKO.out, HM.out, HY.out, HT.out, BBO.nil _ _, rfl, HE.out, HG.out⟩
    have y_3 := beq_fe (a := kz) (b := 3) (by rw [HKZ.out]; omega)
    replace HR := Lib.hid (HR.out.trans (if_neg (show ¬ (v0 = 2 ∨ v0 = 3) by omega)))
    by_cases h_4 : v0 = 4
    · have y_4 := beq_te (a := kz) (b := 4) (by rw [HKZ.out, h_4]; rfl)
      replace HR := Lib.hid (HR.out.trans (if_pos (show v0 = 4 ∨ v0 = 5 ∨ v0 = 6 by omega)))
      have HM_ := Lib.hid (show Blk w_ gv 33 (noCW.vs (kindC (v0 : Int))) by rw [show ((v0 : Int) : Int) = kz from by rw [HKZ.out]]; exact HM.out)
      have HKO_ := Lib.hid (show (kindC (v0 : Int)).ok by rw [show ((v0 : Int) : Int) = kz from by rw [HKZ.out]]; exact HKO.out)
      clear HM HKO h_4
      have HM := HM_; have HKO := HKO_
      clear HM_ HKO_
      go_wp2_with fail
      refine (etext_any (most := 4096) _ HE.out (by omega)).mono ?_
      rintro e w2_ ⟨hg_, ⟨x_, hx_, rfl⟩ | ⟨v4, l4, A5, c5, hx_, rfl, ho_, hc_, hE_⟩⟩
      · have HX_ := Lib.hid hx_
        have HG_ := Lib.hid (grownBy_trans HG.out hg_)
        clear hx_ hg_
        go_wp2_with fail
        exact ⟨by first | trivial | rfl, HERR.out x_ _ (by rw [HR.out, HX_.out]) HG_.out⟩
      have HT := Lib.hid (show TxtO w2_ Z A5 c5 v4 from ⟨own_base ho_ HZS.out, hc_⟩)
      clear ho_ hc_
      have HX4 := Lib.hid hx_
      replace HG := Lib.hid (grownBy_trans HG.out hg_)
      have HR_ := HR.out
      rw [hx_] at HR_
      simp only at HR_
      replace HR := Lib.hid HR_
      clear HR_
      replace HM := Lib.hid (Blk.grown HM.out hg_ (fun e => by injection e with e; have := HGV.out; have := HGY.out; omega))
      replace HY := Lib.hid (Blk.grown HY.out hg_ (fun e => by injection e with e; have := HGV.out; have := HGY.out; omega))
      replace HE := Lib.hid hE_
      replace HZS := Lib.hid (Nat.le_trans HZS.out hg_.size)
      try clear hr_
      clear hx_ hE_ hg_
      try clear w_
      rename World => w_
      go_wp2_with (first | (refine wpl_store1 (o := ⟨none, .store _ _ _, _, _, _, _⟩) rfl rfl HY.out rfl rfl (by kernel_rfl) rfl rfl (by simp) ?_))
      intro w2_ hb2_ hg2_ hsz2_
      have H1_ := Lib.hid (show Blk w2_ gy 77 [.slice A5 v4.length c5, .slice none 0 0] from hb2_)
      have H2_ := Lib.hid (Blk.grown HM.out hg2_ (fun e => by injection e with e; have := HGY.out; omega))
      have HE_ := Lib.hid (HE.out.off hg2_ (.inr (by have := HL.out; have := HGY.out; omega)))
      have HG_ := Lib.hid (grownBy_new HG.out hg2_ (by have := HN.out; have := HGY.out; omega))
      have HZS_ := Lib.hid (Nat.le_trans HZS.out hg2_.size)
      replace HT := Lib.hid (HT.out.keep (fun b hb hlt => hg2_.block b hlt (fun e => by injection e with e; have := HZ.out; have := HGY.out; omega)))
      clear hb2_ hg2_ hsz2_ HM HY HE HG HZS
      have HY := H1_; have HM := H2_; have HE := HE_; have HG := HG_; have HZS := HZS_
      clear H1_ H2_ HE_ HG_ HZS_
      try clear w_
      rename World => w_
      go_wp2_with fail
      refine (enum_any (most := 16) _ HE.out).mono ?_
      rintro e w2_ hr_
      obtain ⟨hg_, ⟨x_, hx_, rfl⟩ | ⟨vn, ln, hx_, rfl, hE_⟩⟩ := hr_.get
      · have HX_ := Lib.hid hx_
        have HG_ := Lib.hid (grownBy_trans HG.out hg_)
        clear hr_ hx_ hg_
        go_wp2_with fail
        exact ⟨by first | trivial | rfl, HERR.out x_ _ (by rw [HR.out, HX_.out]) HG_.out⟩
      have HXn := Lib.hid hx_
      replace HG := Lib.hid (grownBy_trans HG.out hg_)
      have HR_ := HR.out
      rw [hx_] at HR_
      simp only at HR_
      replace HR := Lib.hid HR_
      clear HR_
      replace HM := Lib.hid (Blk.grown HM.out hg_ (fun e => by injection e with e; have := HGV.out; have := HGY.out; omega))
      replace HY := Lib.hid (Blk.grown HY.out hg_ (fun e => by injection e with e; have := HGV.out; have := HGY.out; omega))
      replace HE := Lib.hid hE_
      replace HZS := Lib.hid (Nat.le_trans HZS.out hg_.size)
      replace HT := Lib.hid (HT.out.keep (fun b hb hlt => hg_.block b hlt (fun e => by injection e with e; have := HGV.out; have := HZ.out; omega)))
      try clear hr_
      clear hx_ hE_ hg_
      try clear w_
      rename World => w_
      have hvn : vn ≤ 16 := (numR_le HXn.out).1
      go_wp2_with fail
      go_loopw [43] (fun iv wr => ∃ j : Nat, ∃ A c, ∃ ps : List (Value × List UInt8), ∃ l2, j ≤ vn ∧ iv = .int .u64 (j : Int) ∧ Hid (lookN (textR 2048) j ln = .ok (ps.map Prod.snd, l2)) ∧ Hid (EyeAt wr Lo Bd g l2) ∧ Hid (Blk wr gv 33 (noCW.vs (kindC (v0 : Int)))) ∧ Hid (Blk wr gy 77 [.slice A5 v4.length c5, .slice A j c]) ∧ Hid (TxtO wr Z A5 c5 v4) ∧ Hid (BBO wr Z A j c ps) ∧ Hid (w.grownBy wr (some g)) ∧ Hid (Z ≤ wr.heap.size)) (fun iv _ => vn - (intOf iv).toNat)
      case atStart => exact ⟨0, none, 0, [], ln, by omega, rfl, Lib.hid rfl, HE, HM, HY, HT, Lib.hid (BBO.nil _ _), HG, HZS⟩
      case round =>
        obtain ⟨j, A, c, ps, l2, hj, rfl, hI, hE, hM, hY, hT, hO, hG, hZ⟩ := hrel
        clear HE HM HY HT HG HZS
        have HI := Lib.hid hI.out; have HE := Lib.hid hE.out; have HM := Lib.hid hM.out; have HY := Lib.hid hY.out; have HT := Lib.hid hT.out; have HO := Lib.hid hO.out; have HG := Lib.hid hG.out; have HZS := Lib.hid hZ.out
        clear hI hE hM hY hT hO hG hZ
        rename World => w_
        by_cases hlt : j < vn
        · have HSTEP := Lib.hid (show ∀ x, textR 2048 l2 = .error x → res = .error x from fun x hx => by
            have h1 : lookN (textR 2048) (j + 1) ln = .error x := by rw [lookN_snoc, HI.out]; simp only; rw [hx]
            have h2 := lookN_err h1 (vn - (j + 1))
            rw [show j + 1 + (vn - (j + 1)) = vn by omega] at h2
            rw [HR.out, h2])
          cases htk : textR 2048 l2 with
          | error x =>
            have HEC := Lib.hid (show ∀ w', Drawn w_ w' → Calls Try.prog 73 #[.pointer (some ⟨g, 0, none⟩), .int .i64 ((2048 : Nat) : Int)] w' (fun e w2_ => e = .panicked (brk x) ∧ LookedR w w2_ Lo Bd g l (.panicked (brk x))) from fun w' hd =>
              (etext_any (most := 2048) _ (HE.out.grow hd.grow) (by omega)).mono fun e w2_ hr => by
                obtain ⟨hg_, ⟨y, hy, rfl⟩ | ⟨bs, t, A9, c9, hy, _⟩⟩ := hr
                · rw [htk] at hy
                  injection hy with hy
                  subst hy
                  exact ⟨rfl, HERR.out x _ (HSTEP.out x htk) (grownBy_trans (grownBy_grow HG.out hd.grow) hg_)⟩
                · rw [htk] at hy; cases hy)
            have cp : w_.cell? ⟨gy, 1, none⟩ = some (.slice A j c) := HY.out.at_ rfl
            clear htk
            go_upto_region 18 with fail
            refine wp_region_any (by kernel_rfl) ?_
            change wpAny _ _ _ _ _ _ _ (World.drew _)
            refine wpAny_take (i := 0) (v := ?_) rfl (by kernel_rfl) (by kernel_rfl) (by kernel_rfl) (fun _ _ _ h => h) (Or.inl ⟨by rfl, ?_⟩) ?_
            rotate_left
            · intro w
              go_simp
              try with_reducible rfl
            refine wpAny_take (i := 2) (v := ?_) rfl (by kernel_rfl) (by kernel_rfl) (by kernel_rfl) (fun _ _ _ h => h) (Or.inl ⟨by rfl, ?_⟩) ?_
            rotate_left
            · intro w
              go_simp
              try with_reducible rfl
            refine wpAny_ready (rs := [1, 3]) (by kernel_rfl) (by simp) ?_
            refine AllReady.cons rfl (fun K hK => ?_) (AllReady.cons rfl (fun K hK => ?_) AllReady.nil)
            · go_simp
              refine hK _ _ ?_
              clear hK K
              refine wpAny_ready (rs := [3]) (by kernel_rfl) (by simp) ?_
              refine AllReady.cons rfl (fun K hK => ?_) AllReady.nil
              go_simp
              go_wp2_with (go_at_call 73; refine (HEC.out _ ?_).mono ?_; exact ⟨_, rfl⟩; rintro e w3_ ⟨rfl, hend_⟩; (have HEND := Lib.hid hend_); clear hend_)
              go_wp2_with fail
              exact ⟨by first | trivial | rfl, HEND.out⟩
            · skip
              go_simp
              go_wp2_with (go_at_call 73; refine (HEC.out _ ?_).mono ?_; exact ⟨_, rfl⟩; rintro e w3_ ⟨rfl, hend_⟩; (have HEND := Lib.hid hend_); clear hend_)
              go_wp2_with fail
              exact ⟨by first | trivial | rfl, HEND.out⟩
          | ok pr =>
            obtain ⟨t, l3⟩ := pr
            have HTK := Lib.hid htk
            have HQ1 := Lib.hid (show IntKind.u64.wrap ((j : Int) + 1) = (j : Int) + 1 by rw [IntKind.wrap_u64]; omega)
            clear htk
            have HB := Lib.hid (Below.refl w_.heap.size w_)
            have HGB := Lib.hid (show GrB g w w_ from HG.out); have HZL := Lib.hid (show ZL Z w_ from HZS.out)
            clear HG HZS
            try go_wp2_with fail
            repeat' (first | (with_reducible refine wp_plan (id := 18) (fun a b => (a.grownBy b (some g))) [0,1,0,4,4,3,0,3] (.get 0 (.get 1 (.get 2 (.act 3 (.act 4 (.act 5 (.get 6 (.act 7 .done)))))))) (by kernel_rfl) (by kernel_rfl) (fun a => grownBy_refl a _) (fun _ _ _ h k => grownBy_trans h k) ?_) | go_values | go_skip | go_guarded | go_step | go_upon | go_back)
            intro w_ hd_
            have hb_ := hd_.grow
            have HB_ := Lib.hid (HB.out.grow' hb_)
            clear HB
            have HB := HB_
            clear HB_
            have HM_ := Lib.hid (HM.out.grow hb_)
            clear HM
            have HM := HM_
            clear HM_
            have HY_ := Lib.hid (HY.out.grow hb_)
            clear HY
            have HY := HY_
            clear HY_
            have HE_ := Lib.hid (HE.out.grow hb_)
            clear HE
            have HE := HE_
            clear HE_
            have HT_ := Lib.hid (HT.out.grow hb_)
            clear HT
            have HT := HT_
            clear HT_
            have HO_ := Lib.hid (HO.out.grow hb_)
            clear HO
            have HO := HO_
            clear HO_
            have HGB_ := Lib.hid (HGB.out.grow hb_)
            clear HGB
            have HGB := HGB_
            clear HGB_
            have HZL_ := Lib.hid (HZL.out.grow hb_)
            clear HZL
            have HZL := HZL_
            clear HZL_
            clear hb_ hd_
            clear HB
            repeat (first | (refine pl_calm rfl rfl (by first | exact wanted_none rfl | (go_simp; done) | rfl) (fun w_ => by first | (go_simp; rfl) | (go_simp; done) | rfl) (fun K hK => ?_); go_simp; refine hK _ _ ?_; clear hK K) | (refine pl_skip rfl (by first | (go_simp; done) | rfl) (fun K hK => ?_); go_simp; refine hK _ _ ?_; clear hK K) | (refine pl_skipa rfl (by first | (go_simp; done) | rfl) (fun K hK => ?_); go_simp; refine hK _ _ ?_; clear hK K))
            refine pl_read rfl rfl (by exact wanted_none rfl) (v := .slice A j c) (fun w3_ hf_ => by have c9 : w3_.cell? ⟨gy, 1, none⟩ = some (.slice A j c) := (HY.out.grown hf_ (fun e => by injection e with e; have := HGV.out; have := HGY.out; omega)).at_ rfl; first | (go_simp; rfl) | (go_simp; done)) (fun K hK => ?_)
            go_simp
            refine hK _ _ ?_
            clear hK K
            repeat (first | (refine pl_calm rfl rfl (by first | exact wanted_none rfl | (go_simp; done) | rfl) (fun w_ => by first | (go_simp; rfl) | (go_simp; done) | rfl) (fun K hK => ?_); go_simp; refine hK _ _ ?_; clear hK K) | (refine pl_skip rfl (by first | (go_simp; done) | rfl) (fun K hK => ?_); go_simp; refine hK _ _ ?_; clear hK K) | (refine pl_skipa rfl (by first | (go_simp; done) | rfl) (fun K hK => ?_); go_simp; refine hK _ _ ?_; clear hK K))
            refine pl_act rfl (by exact wanted_none rfl) (fun K hK => ?_)
            go_wp2_with fail
            refine (etext_any (most := 2048) _ HE.out (by omega)).mono ?_
            rintro e w2_ ⟨hg_, ⟨x_, hx_, rfl⟩ | ⟨t2, l4, A6, c6, hx_, rfl, ho_, hc_, hE_⟩⟩
            · rw [HTK.out] at hx_; cases hx_
            have HX4 := Lib.hid (show textR 2048 l2 = .ok (t2, l4) from hx_)
            have HO6 := Lib.hid (show w2_.ownsRow Z 5 1 (.slice A6 t2.length c6) t2.length (t2.map B) from own_base ho_ HZL.out)
            have HC6 := Lib.hid hc_
            have HGG := Lib.hid hg_
            have hb6 : t2.length ≤ 2048 := (textR_le hx_).1
            have HM_ := Lib.hid (Blk.grown HM.out hg_ (fun e => by injection e with e; have := HGV.out; have := HGY.out; omega))
            have HY_ := Lib.hid (Blk.grown HY.out hg_ (fun e => by injection e with e; have := HGV.out; have := HGY.out; omega))
            have HE_ := Lib.hid hE_
            have HT_ := Lib.hid (HT.out.keep (fun b hb hlt => hg_.block b hlt (fun e => by injection e with e; have := HGV.out; have := HZ.out; omega)))
            have HO_ := Lib.hid (HO.out.keep (fun b hb hlt => hg_.block b hlt (fun e => by injection e with e; have := HGV.out; have := HZ.out; omega)))
            have HGB_ := Lib.hid (show GrB g w w2_ from grownBy_trans HGB.out hg_)
            have HZL_ := Lib.hid (show ZL Z w2_ from Nat.le_trans HZL.out hg_.size)
            clear hx_ hg_ ho_ hc_ hE_ HTK HM HY HE HT HO HGB HZL
            have HM := HM_; have HY := HY_; have HE := HE_; have HT := HT_; have HO := HO_; have HGB := HGB_; have HZL := HZL_
            clear HM_ HY_ HE_ HT_ HO_ HGB_ HZL_
            go_wp2_with fail
            refine hK _ _ (fun _ => HGG.out) ?_
            clear hK K HGG
            try clear w_
            rename World => w_
            refine pl_act rfl (by exact wanted_none rfl) (fun K hK => ?_)
            go_wp2_with fail
            generalize hw_ : World.alloc w_ _ = w4_
            obtain ⟨hX_, hb_, hs_⟩ := alloc_eq hw_
            generalize hg_ : w_.heap.size = gx at hX_ hs_ ⊢
            refine hK _ _ (fun _ => grown_of_below hb_ _) ?_
            clear hK K
            have HSX := Lib.hid (show Sl w4_ w4_.heap.size 1 (some ⟨gx, 0, none⟩) 1 [.slice A6 t2.length c6] from (show Blk w4_ gx 36 [.slice A6 t2.length c6] from hX_).sl (by simp))
            have HM_ := Lib.hid (HM.out.grow hb_); have HY_ := Lib.hid (HY.out.grow hb_); have HE_ := Lib.hid (HE.out.grow hb_); have HT_ := Lib.hid (HT.out.grow hb_); have HO_ := Lib.hid (HO.out.grow hb_); have HGB_ := Lib.hid (HGB.out.grow hb_); have HZL_ := Lib.hid (HZL.out.grow hb_); have HO6_ := Lib.hid (own_below HO6.out hb_)
            clear hw_ hX_ hb_ hs_ hg_ HM HY HE HT HO HGB HZL HO6
            have HM := HM_; have HY := HY_; have HE := HE_; have HT := HT_; have HO := HO_; have HGB := HGB_; have HZL := HZL_; have HO6 := HO6_
            clear HM_ HY_ HE_ HT_ HO_ HGB_ HZL_ HO6_
            try clear w_
            rename World => w_
            refine pl_act rfl (by exact wanted_none rfl) (fun K hK => ?_)
            show wpList _ _ _ [⟨some _, .call _, _, _, _, _⟩] _ _
            go_wp2_with (at_builtin; refine wpl_apps rfl rfl el_su8 HO.out.1 rfl HSX.out rfl (fun u hu => by simp only [List.mem_singleton] at hu; subst hu; rfl) (by omega) (by omega) HZL.out ?_)
            intro A4 c4 w4_ ho_ hg_ hA_
            have hne_ : ∀ q, A.map Addr.block = some q → Z ≤ q := own_from HO.out.1
            have HM_ := Lib.hid (HM.out.grown hg_ (fun e => by have h1 := hne_ _ e.symm; have := HZ.out; omega))
            have HY_ := Lib.hid (HY.out.grown hg_ (fun e => by have h1 := hne_ _ e.symm; have := HZ.out; have := HGY.out; omega))
            have HE_ := Lib.hid (HE.out.row hg_ hne_ (by have := HL.out; have := HZ.out; omega))
            have HG_ := Lib.hid (show w.grownBy w4_ (some g) from grownBy_row HGB.out hg_ hne_ (by have := HNE.out; have := HZ.out; omega))
            have HO_ := Lib.hid (show BBO w4_ Z A4 (j + 1) c4 (ps ++ [(.slice A6 t2.length c6, t2)]) from BBO.snoc HO.out hg_ ho_ ⟨A6, c6, rfl, HC6.out, HO6.out⟩)
            have HT_ := Lib.hid (show TxtO w4_ Z A5 c5 v4 from ⟨own_kept HT.out.1 hg_ (own_rows_ne HT.out.1 HO.out.1 (by decide)), HT.out.2⟩)
            have HZ_ := Lib.hid (show Z ≤ w4_.heap.size from Nat.le_trans HZL.out hg_.size)
            clear ho_ hg_ hA_ hne_ HM HY HE HT HO HGB HZL HO6 HSX
            go_wp2_with fail
            refine hK _ _ (fun h => by cases h) ?_
            clear hK K
            have HM := HM_; have HY := HY_; have HE := HE_; have HT := HT_; have HO := HO_; have HG := HG_; have HZS := HZ_
            clear HM_ HY_ HE_ HT_ HO_ HG_ HZ_
            try clear w_
            rename World => w_
            repeat (first | (refine pl_calm rfl rfl (by first | exact wanted_none rfl | (go_simp; done) | rfl) (fun w_ => by first | (go_simp; rfl) | (go_simp; done) | rfl) (fun K hK => ?_); go_simp; refine hK _ _ ?_; clear hK K) | (refine pl_skip rfl (by first | (go_simp; done) | rfl) (fun K hK => ?_); go_simp; refine hK _ _ ?_; clear hK K) | (refine pl_skipa rfl (by first | (go_simp; done) | rfl) (fun K hK => ?_); go_simp; refine hK _ _ ?_; clear hK K))
            refine pl_act rfl (by exact wanted_none rfl) (fun K hK => ?_)
            show wpList _ _ _ [⟨none, .store _ _ _, _, _, _, _⟩] _ _
            go_wp2_with (first | (refine wpl_store1 (o := ⟨none, .store _ _ _, _, _, _, _⟩) rfl rfl HY.out rfl rfl (by kernel_rfl) rfl rfl (by simp) ?_))
            intro w2_ hb2_ hg2_ hsz2_
            have HY_ := Lib.hid (show Blk w2_ gy 77 [.slice A5 v4.length c5, .slice A4 (j + 1) c4] from hb2_)
            have HM_ := Lib.hid (Blk.grown HM.out hg2_ (fun e => by injection e with e; have := HGY.out; omega))
            have HE_ := Lib.hid (HE.out.off hg2_ (.inr (by have := HL.out; have := HGY.out; omega)))
            have HG_ := Lib.hid (grownBy_new HG.out hg2_ (by have := HN.out; have := HGY.out; omega))
            have HT_ := Lib.hid (HT.out.keep (fun b hb hlt => hg2_.block b hlt (fun e => by injection e with e; have := HZ.out; have := HGY.out; omega)))
            have HO_ := Lib.hid (HO.out.keep (fun b hb hlt => hg2_.block b hlt (fun e => by injection e with e; have := HZ.out; have := HGY.out; omega)))
            have HZ_ := Lib.hid (Nat.le_trans HZS.out hg2_.size)
            have HI_ := Lib.hid (show lookN (textR 2048) (j + 1) ln = .ok ((ps ++ [((.slice A6 t2.length c6 : Value), t2)]).map Prod.snd, l4) by rw [lookN_snoc, HI.out]; simp only; rw [HX4.out]; simp)
            clear hb2_ hg2_ hsz2_ hb6
            go_wp2_with fail
            refine hK _ _ (fun h => by cases h) ?_
            clear hK K
            refine pl_done ?_
            have q1 := HQ1.out
            go_wp2_with fail
            go_roundw
            all_goals clear q1
            case rel => exact ⟨j + 1, A4, c4, _, l4, by omega, by first | go_num | simp | rfl, HI_, HE_, HM_, HY_, HT_, HO_, HG_, HZ_⟩
            case measure => simp [intOf]; omega
        · obtain rfl : j = vn := by omega
          have HR_ := HR.out
          rw [HI.out] at HR_
          simp only at HR_
          replace HR := Lib.hid HR_
          clear HR_
          go_wp2_with fail
          go_meet
          case rel => exact Lib.hid ⟨⟨kindC (v0 : Int), v4, ps.map Prod.snd⟩, l2, A5, c5, A, j, c, ps, HR.out, HKO.out, HM.out, HY.out, HT.out, HO.out, rfl, HE.out, HG.out⟩
    have y_4 := beq_fe (a := kz) (b := 4) (by rw [HKZ.out]; omega)
    by_cases h_5 : v0 = 5
    · have y_5 := beq_te (a := kz) (b := 5) (by rw [HKZ.out, h_5]; rfl)
      replace HR := Lib.hid (HR.out.trans (if_pos (show v0 = 4 ∨ v0 = 5 ∨ v0 = 6 by omega)))
      have HM_ := Lib.hid (show Blk w_ gv 33 (noCW.vs (kindC (v0 : Int))) by rw [show ((v0 : Int) : Int) = kz from by rw [HKZ.out]]; exact HM.out)
      have HKO_ := Lib.hid (show (kindC (v0 : Int)).ok by rw [show ((v0 : Int) : Int) = kz from by rw [HKZ.out]]; exact HKO.out)
      clear HM HKO h_5
      have HM := HM_; have HKO := HKO_
      clear HM_ HKO_
      go_wp2_with fail
      refine (etext_any (most := 4096) _ HE.out (by omega)).mono ?_
      rintro e w2_ ⟨hg_, ⟨x_, hx_, rfl⟩ | ⟨v4, l4, A5, c5, hx_, rfl, ho_, hc_, hE_⟩⟩
      · have HX_ := Lib.hid hx_
        have HG_ := Lib.hid (grownBy_trans HG.out hg_)
        clear hx_ hg_
        go_wp2_with fail
        exact ⟨by first | trivial | rfl, HERR.out x_ _ (by rw [HR.out, HX_.out]) HG_.out⟩
      have HT := Lib.hid (show TxtO w2_ Z A5 c5 v4 from ⟨own_base ho_ HZS.out, hc_⟩)
      clear ho_ hc_
      have HX4 := Lib.hid hx_
      replace HG := Lib.hid (grownBy_trans HG.out hg_)
      have HR_ := HR.out
      rw [hx_] at HR_
      simp only at HR_
      replace HR := Lib.hid HR_
      clear HR_
      replace HM := Lib.hid (Blk.grown HM.out hg_ (fun e => by injection e with e; have := HGV.out; have := HGY.out; omega))
      replace HY := Lib.hid (Blk.grown HY.out hg_ (fun e => by injection e with e; have := HGV.out; have := HGY.out; omega))
      replace HE := Lib.hid hE_
      replace HZS := Lib.hid (Nat.le_trans HZS.out hg_.size)
      try clear hr_
      clear hx_ hE_ hg_
      try clear w_
      rename World => w_
      go_wp2_with (first | (refine wpl_store1 (o := ⟨none, .store _ _ _, _, _, _, _⟩) rfl rfl HY.out rfl rfl (by kernel_rfl) rfl rfl (by simp) ?_))
      intro w2_ hb2_ hg2_ hsz2_
      have H1_ := Lib.hid (show Blk w2_ gy 77 [.slice A5 v4.length c5, .slice none 0 0] from hb2_)
      have H2_ := Lib.hid (Blk.grown HM.out hg2_ (fun e => by injection e with e; have := HGY.out; omega))
      have HE_ := Lib.hid (HE.out.off hg2_ (.inr (by have := HL.out; have := HGY.out; omega)))
      have HG_ := Lib.hid (grownBy_new HG.out hg2_ (by have := HN.out; have := HGY.out; omega))
      have HZS_ := Lib.hid (Nat.le_trans HZS.out hg2_.size)
      replace HT := Lib.hid (HT.out.keep (fun b hb hlt => hg2_.block b hlt (fun e => by injection e with e; have := HZ.out; have := HGY.out; omega)))
      clear hb2_ hg2_ hsz2_ HM HY HE HG HZS
      have HY := H1_; have HM := H2_; have HE := HE_; have HG := HG_; have HZS := HZS_
      clear H1_ H2_ HE_ HG_ HZS_
      try clear w_
      rename World => w_
      go_wp2_with fail
      refine (enum_any (most := 16) _ HE.out).mono ?_
      rintro e w2_ hr_
      obtain ⟨hg_, ⟨x_, hx_, rfl⟩ | ⟨vn, ln, hx_, rfl, hE_⟩⟩ := hr_.get
      · have HX_ := Lib.hid hx_
        have HG_ := Lib.hid (grownBy_trans HG.out hg_)
        clear hr_ hx_ hg_
        go_wp2_with fail
        exact ⟨by first | trivial | rfl, HERR.out x_ _ (by rw [HR.out, HX_.out]) HG_.out⟩
      have HXn := Lib.hid hx_
      replace HG := Lib.hid (grownBy_trans HG.out hg_)
      have HR_ := HR.out
      rw [hx_] at HR_
      simp only at HR_
      replace HR := Lib.hid HR_
      clear HR_
      replace HM := Lib.hid (Blk.grown HM.out hg_ (fun e => by injection e with e; have := HGV.out; have := HGY.out; omega))
      replace HY := Lib.hid (Blk.grown HY.out hg_ (fun e => by injection e with e; have := HGV.out; have := HGY.out; omega))
      replace HE := Lib.hid hE_
      replace HZS := Lib.hid (Nat.le_trans HZS.out hg_.size)
      replace HT := Lib.hid (HT.out.keep (fun b hb hlt => hg_.block b hlt (fun e => by injection e with e; have := HGV.out; have := HZ.out; omega)))
      try clear hr_
      clear hx_ hE_ hg_
      try clear w_
      rename World => w_
      have hvn : vn ≤ 16 := (numR_le HXn.out).1
      go_wp2_with fail
      go_loopw [43] (fun iv wr => ∃ j : Nat, ∃ A c, ∃ ps : List (Value × List UInt8), ∃ l2, j ≤ vn ∧ iv = .int .u64 (j : Int) ∧ Hid (lookN (textR 2048) j ln = .ok (ps.map Prod.snd, l2)) ∧ Hid (EyeAt wr Lo Bd g l2) ∧ Hid (Blk wr gv 33 (noCW.vs (kindC (v0 : Int)))) ∧ Hid (Blk wr gy 77 [.slice A5 v4.length c5, .slice A j c]) ∧ Hid (TxtO wr Z A5 c5 v4) ∧ Hid (BBO wr Z A j c ps) ∧ Hid (w.grownBy wr (some g)) ∧ Hid (Z ≤ wr.heap.size)) (fun iv _ => vn - (intOf iv).toNat)
      case atStart => exact ⟨0, none, 0, [], ln, by omega, rfl, Lib.hid rfl, HE, HM, HY, HT, Lib.hid (BBO.nil _ _), HG, HZS⟩
      case round =>
        obtain ⟨j, A, c, ps, l2, hj, rfl, hI, hE, hM, hY, hT, hO, hG, hZ⟩ := hrel
        clear HE HM HY HT HG HZS
        have HI := Lib.hid hI.out; have HE := Lib.hid hE.out; have HM := Lib.hid hM.out; have HY := Lib.hid hY.out; have HT := Lib.hid hT.out; have HO := Lib.hid hO.out; have HG := Lib.hid hG.out; have HZS := Lib.hid hZ.out
        clear hI hE hM hY hT hO hG hZ
        rename World => w_
        by_cases hlt : j < vn
        · have HSTEP := Lib.hid (show ∀ x, textR 2048 l2 = .error x → res = .error x from fun x hx => by
            have h1 : lookN (textR 2048) (j + 1) ln = .error x := by rw [lookN_snoc, HI.out]; simp only; rw [hx]
            have h2 := lookN_err h1 (vn - (j + 1))
            rw [show j + 1 + (vn - (j + 1)) = vn by omega] at h2
            rw [HR.out, h2])
          cases htk : textR 2048 l2 with
          | error x =>
            have HEC := Lib.hid (show ∀ w', Drawn w_ w' → Calls Try.prog 73 #[.pointer (some ⟨g, 0, none⟩), .int .i64 ((2048 : Nat) : Int)] w' (fun e w2_ => e = .panicked (brk x) ∧ LookedR w w2_ Lo Bd g l (.panicked (brk x))) from fun w' hd =>
              (etext_any (most := 2048) _ (HE.out.grow hd.grow) (by omega)).mono fun e w2_ hr => by
                obtain ⟨hg_, ⟨y, hy, rfl⟩ | ⟨bs, t, A9, c9, hy, _⟩⟩ := hr
                · rw [htk] at hy
                  injection hy with hy
                  subst hy
                  exact ⟨rfl, HERR.out x _ (HSTEP.out x htk) (grownBy_trans (grownBy_grow HG.out hd.grow) hg_)⟩
                · rw [htk] at hy; cases hy)
            have cp : w_.cell? ⟨gy, 1, none⟩ = some (.slice A j c) := HY.out.at_ rfl
            clear htk
            go_upto_region 18 with fail
            refine wp_region_any (by kernel_rfl) ?_
            change wpAny _ _ _ _ _ _ _ (World.drew _)
            refine wpAny_take (i := 0) (v := ?_) rfl (by kernel_rfl) (by kernel_rfl) (by kernel_rfl) (fun _ _ _ h => h) (Or.inl ⟨by rfl, ?_⟩) ?_
            rotate_left
            · intro w
              go_simp
              try with_reducible rfl
            refine wpAny_take (i := 2) (v := ?_) rfl (by kernel_rfl) (by kernel_rfl) (by kernel_rfl) (fun _ _ _ h => h) (Or.inl ⟨by rfl, ?_⟩) ?_
            rotate_left
            · intro w
              go_simp
              try with_reducible rfl
            refine wpAny_ready (rs := [1, 3]) (by kernel_rfl) (by simp) ?_
            refine AllReady.cons rfl (fun K hK => ?_) (AllReady.cons rfl (fun K hK => ?_) AllReady.nil)
            · go_simp
              refine hK _ _ ?_
              clear hK K
              refine wpAny_ready (rs := [3]) (by kernel_rfl) (by simp) ?_
              refine AllReady.cons rfl (fun K hK => ?_) AllReady.nil
              go_simp
              go_wp2_with (go_at_call 73; refine (HEC.out _ ?_).mono ?_; exact ⟨_, rfl⟩; rintro e w3_ ⟨rfl, hend_⟩; (have HEND := Lib.hid hend_); clear hend_)
              go_wp2_with fail
              exact ⟨by first | trivial | rfl, HEND.out⟩
            · skip
              go_simp
              go_wp2_with (go_at_call 73; refine (HEC.out _ ?_).mono ?_; exact ⟨_, rfl⟩; rintro e w3_ ⟨rfl, hend_⟩; (have HEND := Lib.hid hend_); clear hend_)
              go_wp2_with fail
              exact ⟨by first | trivial | rfl, HEND.out⟩
          | ok pr =>
            obtain ⟨t, l3⟩ := pr
            have HTK := Lib.hid htk
            have HQ1 := Lib.hid (show IntKind.u64.wrap ((j : Int) + 1) = (j : Int) + 1 by rw [IntKind.wrap_u64]; omega)
            clear htk
            have HB := Lib.hid (Below.refl w_.heap.size w_)
            have HGB := Lib.hid (show GrB g w w_ from HG.out); have HZL := Lib.hid (show ZL Z w_ from HZS.out)
            clear HG HZS
            try go_wp2_with fail
            repeat' (first | (with_reducible refine wp_plan (id := 18) (fun a b => (a.grownBy b (some g))) [0,1,0,4,4,3,0,3] (.get 0 (.get 1 (.get 2 (.act 3 (.act 4 (.act 5 (.get 6 (.act 7 .done)))))))) (by kernel_rfl) (by kernel_rfl) (fun a => grownBy_refl a _) (fun _ _ _ h k => grownBy_trans h k) ?_) | go_values | go_skip | go_guarded | go_step | go_upon | go_back)
            intro w_ hd_
            have hb_ := hd_.grow
            have HB_ := Lib.hid (HB.out.grow' hb_)
            clear HB
            have HB := HB_
            clear HB_
            have HM_ := Lib.hid (HM.out.grow hb_)
            clear HM
            have HM := HM_
            clear HM_
            have HY_ := Lib.hid (HY.out.grow hb_)
            clear HY
            have HY := HY_
            clear HY_
            have HE_ := Lib.hid (HE.out.grow hb_)
            clear HE
            have HE := HE_
            clear HE_
            have HT_ := Lib.hid (HT.out.grow hb_)
            clear HT
            have HT := HT_
            clear HT_
            have HO_ := Lib.hid (HO.out.grow hb_)
            clear HO
            have HO := HO_
            clear HO_
            have HGB_ := Lib.hid (HGB.out.grow hb_)
            clear HGB
            have HGB := HGB_
            clear HGB_
            have HZL_ := Lib.hid (HZL.out.grow hb_)
            clear HZL
            have HZL := HZL_
            clear HZL_
            clear hb_ hd_
            clear HB
            repeat (first | (refine pl_calm rfl rfl (by first | exact wanted_none rfl | (go_simp; done) | rfl) (fun w_ => by first | (go_simp; rfl) | (go_simp; done) | rfl) (fun K hK => ?_); go_simp; refine hK _ _ ?_; clear hK K) | (refine pl_skip rfl (by first | (go_simp; done) | rfl) (fun K hK => ?_); go_simp; refine hK _ _ ?_; clear hK K) | (refine pl_skipa rfl (by first | (go_simp; done) | rfl) (fun K hK => ?_); go_simp; refine hK _ _ ?_; clear hK K))
            refine pl_read rfl rfl (by exact wanted_none rfl) (v := .slice A j c) (fun w3_ hf_ => by have c9 : w3_.cell? ⟨gy, 1, none⟩ = some (.slice A j c) := (HY.out.grown hf_ (fun e => by injection e with e; have := HGV.out; have := HGY.out; omega)).at_ rfl; first | (go_simp; rfl) | (go_simp; done)) (fun K hK => ?_)
            go_simp
            refine hK _ _ ?_
            clear hK K
            repeat (first | (refine pl_calm rfl rfl (by first | exact wanted_none rfl | (go_simp; done) | rfl) (fun w_ => by first | (go_simp; rfl) | (go_simp; done) | rfl) (fun K hK => ?_); go_simp; refine hK _ _ ?_; clear hK K) | (refine pl_skip rfl (by first | (go_simp; done) | rfl) (fun K hK => ?_); go_simp; refine hK _ _ ?_; clear hK K) | (refine pl_skipa rfl (by first | (go_simp; done) | rfl) (fun K hK => ?_); go_simp; refine hK _ _ ?_; clear hK K))
            refine pl_act rfl (by exact wanted_none rfl) (fun K hK => ?_)
            go_wp2_with fail
            refine (etext_any (most := 2048) _ HE.out (by omega)).mono ?_
            rintro e w2_ ⟨hg_, ⟨x_, hx_, rfl⟩ | ⟨t2, l4, A6, c6, hx_, rfl, ho_, hc_, hE_⟩⟩
            · rw [HTK.out] at hx_; cases hx_
            have HX4 := Lib.hid (show textR 2048 l2 = .ok (t2, l4) from hx_)
            have HO6 := Lib.hid (show w2_.ownsRow Z 5 1 (.slice A6 t2.length c6) t2.length (t2.map B) from own_base ho_ HZL.out)
            have HC6 := Lib.hid hc_
            have HGG := Lib.hid hg_
            have hb6 : t2.length ≤ 2048 := (textR_le hx_).1
            have HM_ := Lib.hid (Blk.grown HM.out hg_ (fun e => by injection e with e; have := HGV.out; have := HGY.out; omega))
            have HY_ := Lib.hid (Blk.grown HY.out hg_ (fun e => by injection e with e; have := HGV.out; have := HGY.out; omega))
            have HE_ := Lib.hid hE_
            have HT_ := Lib.hid (HT.out.keep (fun b hb hlt => hg_.block b hlt (fun e => by injection e with e; have := HGV.out; have := HZ.out; omega)))
            have HO_ := Lib.hid (HO.out.keep (fun b hb hlt => hg_.block b hlt (fun e => by injection e with e; have := HGV.out; have := HZ.out; omega)))
            have HGB_ := Lib.hid (show GrB g w w2_ from grownBy_trans HGB.out hg_)
            have HZL_ := Lib.hid (show ZL Z w2_ from Nat.le_trans HZL.out hg_.size)
            clear hx_ hg_ ho_ hc_ hE_ HTK HM HY HE HT HO HGB HZL
            have HM := HM_; have HY := HY_; have HE := HE_; have HT := HT_; have HO := HO_; have HGB := HGB_; have HZL := HZL_
            clear HM_ HY_ HE_ HT_ HO_ HGB_ HZL_
            go_wp2_with fail
            refine hK _ _ (fun _ => HGG.out) ?_
            clear hK K HGG
            try clear w_
            rename World => w_
            refine pl_act rfl (by exact wanted_none rfl) (fun K hK => ?_)
            go_wp2_with fail
            generalize hw_ : World.alloc w_ _ = w4_
            obtain ⟨hX_, hb_, hs_⟩ := alloc_eq hw_
            generalize hg_ : w_.heap.size = gx at hX_ hs_ ⊢
            refine hK _ _ (fun _ => grown_of_below hb_ _) ?_
            clear hK K
            have HSX := Lib.hid (show Sl w4_ w4_.heap.size 1 (some ⟨gx, 0, none⟩) 1 [.slice A6 t2.length c6] from (show Blk w4_ gx 36 [.slice A6 t2.length c6] from hX_).sl (by simp))
            have HM_ := Lib.hid (HM.out.grow hb_); have HY_ := Lib.hid (HY.out.grow hb_); have HE_ := Lib.hid (HE.out.grow hb_); have HT_ := Lib.hid (HT.out.grow hb_); have HO_ := Lib.hid (HO.out.grow hb_); have HGB_ := Lib.hid (HGB.out.grow hb_); have HZL_ := Lib.hid (HZL.out.grow hb_); have HO6_ := Lib.hid (own_below HO6.out hb_)
            clear hw_ hX_ hb_ hs_ hg_ HM HY HE HT HO HGB HZL HO6
            have HM := HM_; have HY := HY_; have HE := HE_; have HT := HT_; have HO := HO_; have HGB := HGB_; have HZL := HZL_; have HO6 := HO6_
            clear HM_ HY_ HE_ HT_ HO_ HGB_ HZL_ HO6_
            try clear w_
            rename World => w_
            refine pl_act rfl (by exact wanted_none rfl) (fun K hK => ?_)
            show wpList _ _ _ [⟨some _, .call _, _, _, _, _⟩] _ _
            go_wp2_with (at_builtin; refine wpl_apps rfl rfl el_su8 HO.out.1 rfl HSX.out rfl (fun u hu => by simp only [List.mem_singleton] at hu; subst hu; rfl) (by omega) (by omega) HZL.out ?_)
            intro A4 c4 w4_ ho_ hg_ hA_
            have hne_ : ∀ q, A.map Addr.block = some q → Z ≤ q := own_from HO.out.1
            have HM_ := Lib.hid (HM.out.grown hg_ (fun e => by have h1 := hne_ _ e.symm; have := HZ.out; omega))
            have HY_ := Lib.hid (HY.out.grown hg_ (fun e => by have h1 := hne_ _ e.symm; have := HZ.out; have := HGY.out; omega))
            have HE_ := Lib.hid (HE.out.row hg_ hne_ (by have := HL.out; have := HZ.out; omega))
            have HG_ := Lib.hid (show w.grownBy w4_ (some g) from grownBy_row HGB.out hg_ hne_ (by have := HNE.out; have := HZ.out; omega))
            have HO_ := Lib.hid (show BBO w4_ Z A4 (j + 1) c4 (ps ++ [(.slice A6 t2.length c6, t2)]) from BBO.snoc HO.out hg_ ho_ ⟨A6, c6, rfl, HC6.out, HO6.out⟩)
            have HT_ := Lib.hid (show TxtO w4_ Z A5 c5 v4 from ⟨own_kept HT.out.1 hg_ (own_rows_ne HT.out.1 HO.out.1 (by decide)), HT.out.2⟩)
            have HZ_ := Lib.hid (show Z ≤ w4_.heap.size from Nat.le_trans HZL.out hg_.size)
            clear ho_ hg_ hA_ hne_ HM HY HE HT HO HGB HZL HO6 HSX
            go_wp2_with fail
            refine hK _ _ (fun h => by cases h) ?_
            clear hK K
            have HM := HM_; have HY := HY_; have HE := HE_; have HT := HT_; have HO := HO_; have HG := HG_; have HZS := HZ_
            clear HM_ HY_ HE_ HT_ HO_ HG_ HZ_
            try clear w_
            rename World => w_
            repeat (first | (refine pl_calm rfl rfl (by first | exact wanted_none rfl | (go_simp; done) | rfl) (fun w_ => by first | (go_simp; rfl) | (go_simp; done) | rfl) (fun K hK => ?_); go_simp; refine hK _ _ ?_; clear hK K) | (refine pl_skip rfl (by first | (go_simp; done) | rfl) (fun K hK => ?_); go_simp; refine hK _ _ ?_; clear hK K) | (refine pl_skipa rfl (by first | (go_simp; done) | rfl) (fun K hK => ?_); go_simp; refine hK _ _ ?_; clear hK K))
            refine pl_act rfl (by exact wanted_none rfl) (fun K hK => ?_)
            show wpList _ _ _ [⟨none, .store _ _ _, _, _, _, _⟩] _ _
            go_wp2_with (first | (refine wpl_store1 (o := ⟨none, .store _ _ _, _, _, _, _⟩) rfl rfl HY.out rfl rfl (by kernel_rfl) rfl rfl (by simp) ?_))
            intro w2_ hb2_ hg2_ hsz2_
            have HY_ := Lib.hid (show Blk w2_ gy 77 [.slice A5 v4.length c5, .slice A4 (j + 1) c4] from hb2_)
            have HM_ := Lib.hid (Blk.grown HM.out hg2_ (fun e => by injection e with e; have := HGY.out; omega))
            have HE_ := Lib.hid (HE.out.off hg2_ (.inr (by have := HL.out; have := HGY.out; omega)))
            have HG_ := Lib.hid (grownBy_new HG.out hg2_ (by have := HN.out; have := HGY.out; omega))
            have HT_ := Lib.hid (HT.out.keep (fun b hb hlt => hg2_.block b hlt (fun e => by injection e with e; have := HZ.out; have := HGY.out; omega)))
            have HO_ := Lib.hid (HO.out.keep (fun b hb hlt => hg2_.block b hlt (fun e => by injection e with e; have := HZ.out; have := HGY.out; omega)))
            have HZ_ := Lib.hid (Nat.le_trans HZS.out hg2_.size)
            have HI_ := Lib.hid (show lookN (textR 2048) (j + 1) ln = .ok ((ps ++ [((.slice A6 t2.length c6 : Value), t2)]).map Prod.snd, l4) by rw [lookN_snoc, HI.out]; simp only; rw [HX4.out]; simp)
            clear hb2_ hg2_ hsz2_ hb6
            go_wp2_with fail
            refine hK _ _ (fun h => by cases h) ?_
            clear hK K
            refine pl_done ?_
            have q1 := HQ1.out
            go_wp2_with fail
            go_roundw
            all_goals clear q1
            case rel => exact ⟨j + 1, A4, c4, _, l4, by omega, by first | go_num | simp | rfl, HI_, HE_, HM_, HY_, HT_, HO_, HG_, HZ_⟩
            case measure => simp [intOf]; omega
        · obtain rfl : j = vn := by omega
          have HR_ := HR.out
          rw [HI.out] at HR_
          simp only at HR_
          replace HR := Lib.hid HR_
          clear HR_
          go_wp2_with fail
          go_meet
          case rel => exact Lib.hid ⟨⟨kindC (v0 : Int), v4, ps.map Prod.snd⟩, l2, A5, c5, A, j, c, ps, HR.out, HKO.out, HM.out, HY.out, HT.out, HO.out, rfl, HE.out, HG.out⟩
    have y_5 := beq_fe (a := kz) (b := 5) (by rw [HKZ.out]; omega)
    by_cases h_6 : v0 = 6
    · have y_6 := beq_te (a := kz) (b := 6) (by rw [HKZ.out, h_6]; rfl)
      replace HR := Lib.hid (HR.out.trans (if_pos (show v0 = 4 ∨ v0 = 5 ∨ v0 = 6 by omega)))
      have HM_ := Lib.hid (show Blk w_ gv 33 (noCW.vs (kindC (v0 : Int))) by rw [show ((v0 : Int) : Int) = kz from by rw [HKZ.out]]; exact HM.out)
      have HKO_ := Lib.hid (show (kindC (v0 : Int)).ok by rw [show ((v0 : Int) : Int) = kz from by rw [HKZ.out]]; exact HKO.out)
      clear HM HKO h_6
      have HM := HM_; have HKO := HKO_
      clear HM_ HKO_
      go_wp2_with fail
      refine (etext_any (most := 4096) _ HE.out (by omega)).mono ?_
      rintro e w2_ ⟨hg_, ⟨x_, hx_, rfl⟩ | ⟨v4, l4, A5, c5, hx_, rfl, ho_, hc_, hE_⟩⟩
      · have HX_ := Lib.hid hx_
        have HG_ := Lib.hid (grownBy_trans HG.out hg_)
        clear hx_ hg_
        go_wp2_with fail
        exact ⟨by first | trivial | rfl, HERR.out x_ _ (by rw [HR.out, HX_.out]) HG_.out⟩
      have HT := Lib.hid (show TxtO w2_ Z A5 c5 v4 from ⟨own_base ho_ HZS.out, hc_⟩)
      clear ho_ hc_
      have HX4 := Lib.hid hx_
      replace HG := Lib.hid (grownBy_trans HG.out hg_)
      have HR_ := HR.out
      rw [hx_] at HR_
      simp only at HR_
      replace HR := Lib.hid HR_
      clear HR_
      replace HM := Lib.hid (Blk.grown HM.out hg_ (fun e => by injection e with e; have := HGV.out; have := HGY.out; omega))
      replace HY := Lib.hid (Blk.grown HY.out hg_ (fun e => by injection e with e; have := HGV.out; have := HGY.out; omega))
      replace HE := Lib.hid hE_
      replace HZS := Lib.hid (Nat.le_trans HZS.out hg_.size)
      try clear hr_
      clear hx_ hE_ hg_
      try clear w_
      rename World => w_
      go_wp2_with (first | (refine wpl_store1 (o := ⟨none, .store _ _ _, _, _, _, _⟩) rfl rfl HY.out rfl rfl (by kernel_rfl) rfl rfl (by simp) ?_))
      intro w2_ hb2_ hg2_ hsz2_
      have H1_ := Lib.hid (show Blk w2_ gy 77 [.slice A5 v4.length c5, .slice none 0 0] from hb2_)
      have H2_ := Lib.hid (Blk.grown HM.out hg2_ (fun e => by injection e with e; have := HGY.out; omega))
      have HE_ := Lib.hid (HE.out.off hg2_ (.inr (by have := HL.out; have := HGY.out; omega)))
      have HG_ := Lib.hid (grownBy_new HG.out hg2_ (by have := HN.out; have := HGY.out; omega))
      have HZS_ := Lib.hid (Nat.le_trans HZS.out hg2_.size)
      replace HT := Lib.hid (HT.out.keep (fun b hb hlt => hg2_.block b hlt (fun e => by injection e with e; have := HZ.out; have := HGY.out; omega)))
      clear hb2_ hg2_ hsz2_ HM HY HE HG HZS
      have HY := H1_; have HM := H2_; have HE := HE_; have HG := HG_; have HZS := HZS_
      clear H1_ H2_ HE_ HG_ HZS_
      try clear w_
      rename World => w_
      go_wp2_with fail
      refine (enum_any (most := 16) _ HE.out).mono ?_
      rintro e w2_ hr_
      obtain ⟨hg_, ⟨x_, hx_, rfl⟩ | ⟨vn, ln, hx_, rfl, hE_⟩⟩ := hr_.get
      · have HX_ := Lib.hid hx_
        have HG_ := Lib.hid (grownBy_trans HG.out hg_)
        clear hr_ hx_ hg_
        go_wp2_with fail
        exact ⟨by first | trivial | rfl, HERR.out x_ _ (by rw [HR.out, HX_.out]) HG_.out⟩
      have HXn := Lib.hid hx_
      replace HG := Lib.hid (grownBy_trans HG.out hg_)
      have HR_ := HR.out
      rw [hx_] at HR_
      simp only at HR_
      replace HR := Lib.hid HR_
      clear HR_
      replace HM := Lib.hid (Blk.grown HM.out hg_ (fun e => by injection e with e; have := HGV.out; have := HGY.out; omega))
      replace HY := Lib.hid (Blk.grown HY.out hg_ (fun e => by injection e with e; have := HGV.out; have := HGY.out; omega))
      replace HE := Lib.hid hE_
      replace HZS := Lib.hid (Nat.le_trans HZS.out hg_.size)
      replace HT := Lib.hid (HT.out.keep (fun b hb hlt => hg_.block b hlt (fun e => by injection e with e; have := HGV.out; have := HZ.out; omega)))
      try clear hr_
      clear hx_ hE_ hg_
      try clear w_
      rename World => w_
      have hvn : vn ≤ 16 := (numR_le HXn.out).1
      go_wp2_with fail
      go_loopw [43] (fun iv wr => ∃ j : Nat, ∃ A c, ∃ ps : List (Value × List UInt8), ∃ l2, j ≤ vn ∧ iv = .int .u64 (j : Int) ∧ Hid (lookN (textR 2048) j ln = .ok (ps.map Prod.snd, l2)) ∧ Hid (EyeAt wr Lo Bd g l2) ∧ Hid (Blk wr gv 33 (noCW.vs (kindC (v0 : Int)))) ∧ Hid (Blk wr gy 77 [.slice A5 v4.length c5, .slice A j c]) ∧ Hid (TxtO wr Z A5 c5 v4) ∧ Hid (BBO wr Z A j c ps) ∧ Hid (w.grownBy wr (some g)) ∧ Hid (Z ≤ wr.heap.size)) (fun iv _ => vn - (intOf iv).toNat)
      case atStart => exact ⟨0, none, 0, [], ln, by omega, rfl, Lib.hid rfl, HE, HM, HY, HT, Lib.hid (BBO.nil _ _), HG, HZS⟩
      case round =>
        obtain ⟨j, A, c, ps, l2, hj, rfl, hI, hE, hM, hY, hT, hO, hG, hZ⟩ := hrel
        clear HE HM HY HT HG HZS
        have HI := Lib.hid hI.out; have HE := Lib.hid hE.out; have HM := Lib.hid hM.out; have HY := Lib.hid hY.out; have HT := Lib.hid hT.out; have HO := Lib.hid hO.out; have HG := Lib.hid hG.out; have HZS := Lib.hid hZ.out
        clear hI hE hM hY hT hO hG hZ
        rename World => w_
        by_cases hlt : j < vn
        · have HSTEP := Lib.hid (show ∀ x, textR 2048 l2 = .error x → res = .error x from fun x hx => by
            have h1 : lookN (textR 2048) (j + 1) ln = .error x := by rw [lookN_snoc, HI.out]; simp only; rw [hx]
            have h2 := lookN_err h1 (vn - (j + 1))
            rw [show j + 1 + (vn - (j + 1)) = vn by omega] at h2
            rw [HR.out, h2])
          cases htk : textR 2048 l2 with
          | error x =>
            have HEC := Lib.hid (show ∀ w', Drawn w_ w' → Calls Try.prog 73 #[.pointer (some ⟨g, 0, none⟩), .int .i64 ((2048 : Nat) : Int)] w' (fun e w2_ => e = .panicked (brk x) ∧ LookedR w w2_ Lo Bd g l (.panicked (brk x))) from fun w' hd =>
              (etext_any (most := 2048) _ (HE.out.grow hd.grow) (by omega)).mono fun e w2_ hr => by
                obtain ⟨hg_, ⟨y, hy, rfl⟩ | ⟨bs, t, A9, c9, hy, _⟩⟩ := hr
                · rw [htk] at hy
                  injection hy with hy
                  subst hy
                  exact ⟨rfl, HERR.out x _ (HSTEP.out x htk) (grownBy_trans (grownBy_grow HG.out hd.grow) hg_)⟩
                · rw [htk] at hy; cases hy)
            have cp : w_.cell? ⟨gy, 1, none⟩ = some (.slice A j c) := HY.out.at_ rfl
            clear htk
            go_upto_region 18 with fail
            refine wp_region_any (by kernel_rfl) ?_
            change wpAny _ _ _ _ _ _ _ (World.drew _)
            refine wpAny_take (i := 0) (v := ?_) rfl (by kernel_rfl) (by kernel_rfl) (by kernel_rfl) (fun _ _ _ h => h) (Or.inl ⟨by rfl, ?_⟩) ?_
            rotate_left
            · intro w
              go_simp
              try with_reducible rfl
            refine wpAny_take (i := 2) (v := ?_) rfl (by kernel_rfl) (by kernel_rfl) (by kernel_rfl) (fun _ _ _ h => h) (Or.inl ⟨by rfl, ?_⟩) ?_
            rotate_left
            · intro w
              go_simp
              try with_reducible rfl
            refine wpAny_ready (rs := [1, 3]) (by kernel_rfl) (by simp) ?_
            refine AllReady.cons rfl (fun K hK => ?_) (AllReady.cons rfl (fun K hK => ?_) AllReady.nil)
            · go_simp
              refine hK _ _ ?_
              clear hK K
              refine wpAny_ready (rs := [3]) (by kernel_rfl) (by simp) ?_
              refine AllReady.cons rfl (fun K hK => ?_) AllReady.nil
              go_simp
              go_wp2_with (go_at_call 73; refine (HEC.out _ ?_).mono ?_; exact ⟨_, rfl⟩; rintro e w3_ ⟨rfl, hend_⟩; (have HEND := Lib.hid hend_); clear hend_)
              go_wp2_with fail
              exact ⟨by first | trivial | rfl, HEND.out⟩
            · skip
              go_simp
              go_wp2_with (go_at_call 73; refine (HEC.out _ ?_).mono ?_; exact ⟨_, rfl⟩; rintro e w3_ ⟨rfl, hend_⟩; (have HEND := Lib.hid hend_); clear hend_)
              go_wp2_with fail
              exact ⟨by first | trivial | rfl, HEND.out⟩
          | ok pr =>
            obtain ⟨t, l3⟩ := pr
            have HTK := Lib.hid htk
            have HQ1 := Lib.hid (show IntKind.u64.wrap ((j : Int) + 1) = (j : Int) + 1 by rw [IntKind.wrap_u64]; omega)
            clear htk
            have HB := Lib.hid (Below.refl w_.heap.size w_)
            have HGB := Lib.hid (show GrB g w w_ from HG.out); have HZL := Lib.hid (show ZL Z w_ from HZS.out)
            clear HG HZS
            try go_wp2_with fail
            repeat' (first | (with_reducible refine wp_plan (id := 18) (fun a b => (a.grownBy b (some g))) [0,1,0,4,4,3,0,3] (.get 0 (.get 1 (.get 2 (.act 3 (.act 4 (.act 5 (.get 6 (.act 7 .done)))))))) (by kernel_rfl) (by kernel_rfl) (fun a => grownBy_refl a _) (fun _ _ _ h k => grownBy_trans h k) ?_) | go_values | go_skip | go_guarded | go_step | go_upon | go_back)
            intro w_ hd_
            have hb_ := hd_.grow
            have HB_ := Lib.hid (HB.out.grow' hb_)
            clear HB
            have HB := HB_
            clear HB_
            have HM_ := Lib.hid (HM.out.grow hb_)
            clear HM
            have HM := HM_
            clear HM_
            have HY_ := Lib.hid (HY.out.grow hb_)
            clear HY
            have HY := HY_
            clear HY_
            have HE_ := Lib.hid (HE.out.grow hb_)
            clear HE
            have HE := HE_
            clear HE_
            have HT_ := Lib.hid (HT.out.grow hb_)
            clear HT
            have HT := HT_
            clear HT_
            have HO_ := Lib.hid (HO.out.grow hb_)
            clear HO
            have HO := HO_
            clear HO_
            have HGB_ := Lib.hid (HGB.out.grow hb_)
            clear HGB
            have HGB := HGB_
            clear HGB_
            have HZL_ := Lib.hid (HZL.out.grow hb_)
            clear HZL
            have HZL := HZL_
            clear HZL_
            clear hb_ hd_
            clear HB
            repeat (first | (refine pl_calm rfl rfl (by first | exact wanted_none rfl | (go_simp; done) | rfl) (fun w_ => by first | (go_simp; rfl) | (go_simp; done) | rfl) (fun K hK => ?_); go_simp; refine hK _ _ ?_; clear hK K) | (refine pl_skip rfl (by first | (go_simp; done) | rfl) (fun K hK => ?_); go_simp; refine hK _ _ ?_; clear hK K) | (refine pl_skipa rfl (by first | (go_simp; done) | rfl) (fun K hK => ?_); go_simp; refine hK _ _ ?_; clear hK K))
            refine pl_read rfl rfl (by exact wanted_none rfl) (v := .slice A j c) (fun w3_ hf_ => by have c9 : w3_.cell? ⟨gy, 1, none⟩ = some (.slice A j c) := (HY.out.grown hf_ (fun e => by injection e with e; have := HGV.out; have := HGY.out; omega)).at_ rfl; first | (go_simp; rfl) | (go_simp; done)) (fun K hK => ?_)
            go_simp
            refine hK _ _ ?_
            clear hK K
            repeat (first | (refine pl_calm rfl rfl (by first | exact wanted_none rfl | (go_simp; done) | rfl) (fun w_ => by first | (go_simp; rfl) | (go_simp; done) | rfl) (fun K hK => ?_); go_simp; refine hK _ _ ?_; clear hK K) | (refine pl_skip rfl (by first | (go_simp; done) | rfl) (fun K hK => ?_); go_simp; refine hK _ _ ?_; clear hK K) | (refine pl_skipa rfl (by first | (go_simp; done) | rfl) (fun K hK => ?_); go_simp; refine hK _ _ ?_; clear hK K))
            refine pl_act rfl (by exact wanted_none rfl) (fun K hK => ?_)
            go_wp2_with fail
            refine (etext_any (most := 2048) _ HE.out (by omega)).mono ?_
            rintro e w2_ ⟨hg_, ⟨x_, hx_, rfl⟩ | ⟨t2, l4, A6, c6, hx_, rfl, ho_, hc_, hE_⟩⟩
            · rw [HTK.out] at hx_; cases hx_
            have HX4 := Lib.hid (show textR 2048 l2 = .ok (t2, l4) from hx_)
            have HO6 := Lib.hid (show w2_.ownsRow Z 5 1 (.slice A6 t2.length c6) t2.length (t2.map B) from own_base ho_ HZL.out)
            have HC6 := Lib.hid hc_
            have HGG := Lib.hid hg_
            have hb6 : t2.length ≤ 2048 := (textR_le hx_).1
            have HM_ := Lib.hid (Blk.grown HM.out hg_ (fun e => by injection e with e; have := HGV.out; have := HGY.out; omega))
            have HY_ := Lib.hid (Blk.grown HY.out hg_ (fun e => by injection e with e; have := HGV.out; have := HGY.out; omega))
            have HE_ := Lib.hid hE_
            have HT_ := Lib.hid (HT.out.keep (fun b hb hlt => hg_.block b hlt (fun e => by injection e with e; have := HGV.out; have := HZ.out; omega)))
            have HO_ := Lib.hid (HO.out.keep (fun b hb hlt => hg_.block b hlt (fun e => by injection e with e; have := HGV.out; have := HZ.out; omega)))
            have HGB_ := Lib.hid (show GrB g w w2_ from grownBy_trans HGB.out hg_)
            have HZL_ := Lib.hid (show ZL Z w2_ from Nat.le_trans HZL.out hg_.size)
            clear hx_ hg_ ho_ hc_ hE_ HTK HM HY HE HT HO HGB HZL
            have HM := HM_; have HY := HY_; have HE := HE_; have HT := HT_; have HO := HO_; have HGB := HGB_; have HZL := HZL_
            clear HM_ HY_ HE_ HT_ HO_ HGB_ HZL_
            go_wp2_with fail
            refine hK _ _ (fun _ => HGG.out) ?_
            clear hK K HGG
            try clear w_
            rename World => w_
            refine pl_act rfl (by exact wanted_none rfl) (fun K hK => ?_)
            go_wp2_with fail
            generalize hw_ : World.alloc w_ _ = w4_
            obtain ⟨hX_, hb_, hs_⟩ := alloc_eq hw_
            generalize hg_ : w_.heap.size = gx at hX_ hs_ ⊢
            refine hK _ _ (fun _ => grown_of_below hb_ _) ?_
            clear hK K
            have HSX := Lib.hid (show Sl w4_ w4_.heap.size 1 (some ⟨gx, 0, none⟩) 1 [.slice A6 t2.length c6] from (show Blk w4_ gx 36 [.slice A6 t2.length c6] from hX_).sl (by simp))
            have HM_ := Lib.hid (HM.out.grow hb_); have HY_ := Lib.hid (HY.out.grow hb_); have HE_ := Lib.hid (HE.out.grow hb_); have HT_ := Lib.hid (HT.out.grow hb_); have HO_ := Lib.hid (HO.out.grow hb_); have HGB_ := Lib.hid (HGB.out.grow hb_); have HZL_ := Lib.hid (HZL.out.grow hb_); have HO6_ := Lib.hid (own_below HO6.out hb_)
            clear hw_ hX_ hb_ hs_ hg_ HM HY HE HT HO HGB HZL HO6
            have HM := HM_; have HY := HY_; have HE := HE_; have HT := HT_; have HO := HO_; have HGB := HGB_; have HZL := HZL_; have HO6 := HO6_
            clear HM_ HY_ HE_ HT_ HO_ HGB_ HZL_ HO6_
            try clear w_
            rename World => w_
            refine pl_act rfl (by exact wanted_none rfl) (fun K hK => ?_)
            show wpList _ _ _ [⟨some _, .call _, _, _, _, _⟩] _ _
            go_wp2_with (at_builtin; refine wpl_apps rfl rfl el_su8 HO.out.1 rfl HSX.out rfl (fun u hu => by simp only [List.mem_singleton] at hu; subst hu; rfl) (by omega) (by omega) HZL.out ?_)
            intro A4 c4 w4_ ho_ hg_ hA_
            have hne_ : ∀ q, A.map Addr.block = some q → Z ≤ q := own_from HO.out.1
            have HM_ := Lib.hid (HM.out.grown hg_ (fun e => by have h1 := hne_ _ e.symm; have := HZ.out; omega))
            have HY_ := Lib.hid (HY.out.grown hg_ (fun e => by have h1 := hne_ _ e.symm; have := HZ.out; have := HGY.out; omega))
            have HE_ := Lib.hid (HE.out.row hg_ hne_ (by have := HL.out; have := HZ.out; omega))
            have HG_ := Lib.hid (show w.grownBy w4_ (some g) from grownBy_row HGB.out hg_ hne_ (by have := HNE.out; have := HZ.out; omega))
            have HO_ := Lib.hid (show BBO w4_ Z A4 (j + 1) c4 (ps ++ [(.slice A6 t2.length c6, t2)]) from BBO.snoc HO.out hg_ ho_ ⟨A6, c6, rfl, HC6.out, HO6.out⟩)
            have HT_ := Lib.hid (show TxtO w4_ Z A5 c5 v4 from ⟨own_kept HT.out.1 hg_ (own_rows_ne HT.out.1 HO.out.1 (by decide)), HT.out.2⟩)
            have HZ_ := Lib.hid (show Z ≤ w4_.heap.size from Nat.le_trans HZL.out hg_.size)
            clear ho_ hg_ hA_ hne_ HM HY HE HT HO HGB HZL HO6 HSX
            go_wp2_with fail
            refine hK _ _ (fun h => by cases h) ?_
            clear hK K
            have HM := HM_; have HY := HY_; have HE := HE_; have HT := HT_; have HO := HO_; have HG := HG_; have HZS := HZ_
            clear HM_ HY_ HE_ HT_ HO_ HG_ HZ_
            try clear w_
            rename World => w_
            repeat (first | (refine pl_calm rfl rfl (by first | exact wanted_none rfl | (go_simp; done) | rfl) (fun w_ => by first | (go_simp; rfl) | (go_simp; done) | rfl) (fun K hK => ?_); go_simp; refine hK _ _ ?_; clear hK K) | (refine pl_skip rfl (by first | (go_simp; done) | rfl) (fun K hK => ?_); go_simp; refine hK _ _ ?_; clear hK K) | (refine pl_skipa rfl (by first | (go_simp; done) | rfl) (fun K hK => ?_); go_simp; refine hK _ _ ?_; clear hK K))
            refine pl_act rfl (by exact wanted_none rfl) (fun K hK => ?_)
            show wpList _ _ _ [⟨none, .store _ _ _, _, _, _, _⟩] _ _
            go_wp2_with (first | (refine wpl_store1 (o := ⟨none, .store _ _ _, _, _, _, _⟩) rfl rfl HY.out rfl rfl (by kernel_rfl) rfl rfl (by simp) ?_))
            intro w2_ hb2_ hg2_ hsz2_
            have HY_ := Lib.hid (show Blk w2_ gy 77 [.slice A5 v4.length c5, .slice A4 (j + 1) c4] from hb2_)
            have HM_ := Lib.hid (Blk.grown HM.out hg2_ (fun e => by injection e with e; have := HGY.out; omega))
            have HE_ := Lib.hid (HE.out.off hg2_ (.inr (by have := HL.out; have := HGY.out; omega)))
            have HG_ := Lib.hid (grownBy_new HG.out hg2_ (by have := HN.out; have := HGY.out; omega))
            have HT_ := Lib.hid (HT.out.keep (fun b hb hlt => hg2_.block b hlt (fun e => by injection e with e; have := HZ.out; have := HGY.out; omega)))
            have HO_ := Lib.hid (HO.out.keep (fun b hb hlt => hg2_.block b hlt (fun e => by injection e with e; have := HZ.out; have := HGY.out; omega)))
            have HZ_ := Lib.hid (Nat.le_trans HZS.out hg2_.size)
            have HI_ := Lib.hid (show lookN (textR 2048) (j + 1) ln = .ok ((ps ++ [((.slice A6 t2.length c6 : Value), t2)]).map Prod.snd, l4) by rw [lookN_snoc, HI.out]; simp only; rw [HX4.out]; simp)
            clear hb2_ hg2_ hsz2_ hb6
            go_wp2_with fail
            refine hK _ _ (fun h => by cases h) ?_
            clear hK K
            refine pl_done ?_
            have q1 := HQ1.out
            go_wp2_with fail
            go_roundw
            all_goals clear q1
            case rel => exact ⟨j + 1, A4, c4, _, l4, by omega, by first | go_num | simp | rfl, HI_, HE_, HM_, HY_, HT_, HO_, HG_, HZ_⟩
            case measure => simp [intOf]; omega
        · obtain rfl : j = vn := by omega
          have HR_ := HR.out
          rw [HI.out] at HR_
          simp only at HR_
          replace HR := Lib.hid HR_
          clear HR_
          go_wp2_with fail
          go_meet
          case rel => exact Lib.hid ⟨⟨kindC (v0 : Int), v4, ps.map Prod.snd⟩, l2, A5, c5, A, j, c, ps, HR.out, HKO.out, HM.out, HY.out, HT.out, HO.out, rfl, HE.out, HG.out⟩
    have y_6 := beq_fe (a := kz) (b := 6) (by rw [HKZ.out]; omega)
    replace HR := Lib.hid (HR.out.trans (if_neg (show ¬ (v0 = 4 ∨ v0 = 5 ∨ v0 = 6) by omega)))
    by_cases h_7 : v0 = 7
    · have y_7 := beq_te (a := kz) (b := 7) (by rw [HKZ.out, h_7]; rfl)
      replace HR := Lib.hid (HR.out.trans (if_pos h_7))
      have HM_ := Lib.hid (show Blk w_ gv 33 (noCW.vs (kindC 7)) by rw [show (7 : Int) = kz from by rw [HKZ.out, h_7]; rfl]; exact HM.out)
      have HKO_ := Lib.hid (show (kindC 7).ok by rw [show (7 : Int) = kz from by rw [HKZ.out, h_7]; rfl]; exact HKO.out)
      clear HM HKO h_7
      have HM := HM_; have HKO := HKO_
      clear HM_ HKO_
      go_wp2_with fail
      refine (enum_any (most := 1099511627776) _ HE.out).mono ?_
      rintro e w2_ hr_
      obtain ⟨hg_, ⟨x_, hx_, rfl⟩ | ⟨v1, l1, hx_, rfl, hE_⟩⟩ := hr_.get
      · have HX_ := Lib.hid hx_
        have HG_ := Lib.hid (grownBy_trans HG.out hg_)
        clear hr_ hx_ hg_
        go_wp2_with fail
        exact ⟨by first | trivial | rfl, HERR.out x_ _ (by rw [HR.out, HX_.out]) HG_.out⟩
      have HX1 := Lib.hid hx_
      replace HG := Lib.hid (grownBy_trans HG.out hg_)
      have HR_ := HR.out
      rw [hx_] at HR_
      simp only at HR_
      replace HR := Lib.hid HR_
      clear HR_
      replace HM := Lib.hid (Blk.grown HM.out hg_ (fun e => by injection e with e; have := HGV.out; have := HGY.out; omega))
      replace HY := Lib.hid (Blk.grown HY.out hg_ (fun e => by injection e with e; have := HGV.out; have := HGY.out; omega))
      replace HE := Lib.hid hE_
      replace HZS := Lib.hid (Nat.le_trans HZS.out hg_.size)
      try clear hr_
      clear hx_ hE_ hg_
      try clear w_
      rename World => w_
      have hs_ := (numR_le HX1.out).1
      have q1 : IntKind.i64.wrap (v1 : Int) = (v1 : Int) := IntWalk.i64_in _ (by omega)
      go_wp2_with (first | (refine wpl_store1 (o := ⟨none, .store _ _ _, _, _, _, _⟩) rfl rfl HM.out rfl rfl (by kernel_rfl) rfl rfl (by rw [vs_len HKO.out]; omega) ?_))
      intro w2_ hb2_ hg2_ hsz2_
      have H1_ := Lib.hid (show Blk w2_ gv 33 (noCW.vs { kindC 7 with epoch := (v1 : Int) }) by rw [← set_epoch HKO.out.2.2.2.1]; exact hb2_)
      have H2_ := Lib.hid (Blk.grown HY.out hg2_ (fun e => by injection e with e; have := HGY.out; omega))
      have HE_ := Lib.hid (HE.out.off hg2_ (.inr (by have := HL.out; have := HGY.out; omega)))
      have HG_ := Lib.hid (grownBy_new HG.out hg2_ (by have := HN.out; have := HGY.out; omega))
      have HZS_ := Lib.hid (Nat.le_trans HZS.out hg2_.size)
      clear hb2_ hg2_ hsz2_ HM HY HE HG HZS
      have HM := H1_; have HY := H2_; have HE := HE_; have HG := HG_; have HZS := HZS_
      clear H1_ H2_ HE_ HG_ HZS_
      try clear w_
      rename World => w_
      clear q1
      replace HKO := Lib.hid (show ({ kindC 7 with epoch := (v1 : Int) } : Cmd).ok from ⟨HKO.out.1, HKO.out.2.1, HKO.out.2.2.1, HKO.out.2.2.2.1, HKO.out.2.2.2.2.1, by unfold I64; simp only; omega, HKO.out.2.2.2.2.2.2⟩)
      go_wp2_with fail
      go_meet
      case rel => exact Lib.hid ⟨⟨{ kindC 7 with epoch := (v1 : Int) }, [], []⟩, l1, none, 0, none, 0, 0, [], HR.out, HKO.out, HM.out, HY.out, TxtO.nil _ _, BBO.nil _ _, rfl, HE.out, HG.out⟩
    have y_7 := beq_fe (a := kz) (b := 7) (by rw [HKZ.out]; omega)
    replace HR := Lib.hid (HR.out.trans (if_neg h_7))
    by_cases h_9 : v0 = 9
    · have y_9 := beq_te (a := kz) (b := 9) (by rw [HKZ.out, h_9]; rfl)
      replace HR := Lib.hid (HR.out.trans (if_pos h_9))
      have HM_ := Lib.hid (show Blk w_ gv 33 (noCW.vs (kindC 9)) by rw [show (9 : Int) = kz from by rw [HKZ.out, h_9]; rfl]; exact HM.out)
      have HKO_ := Lib.hid (show (kindC 9).ok by rw [show (9 : Int) = kz from by rw [HKZ.out, h_9]; rfl]; exact HKO.out)
      clear HM HKO h_9
      have HM := HM_; have HKO := HKO_
      clear HM_ HKO_
      go_wp2_with fail
      refine (eid_any _ HE.out).mono ?_
      rintro e w2_ hr_
      obtain ⟨hg_, ⟨x_, hx_, rfl⟩ | ⟨v2, l2, hx_, rfl, hE_⟩⟩ := hr_.get
      · have HX_ := Lib.hid hx_
        have HG_ := Lib.hid (grownBy_trans HG.out hg_)
        clear hr_ hx_ hg_
        go_wp2_with fail
        exact ⟨by first | trivial | rfl, HERR.out x_ _ (by rw [HR.out, HX_.out]) HG_.out⟩
      have HX2 := Lib.hid hx_
      replace HG := Lib.hid (grownBy_trans HG.out hg_)
      have HR_ := HR.out
      rw [hx_] at HR_
      simp only at HR_
      replace HR := Lib.hid HR_
      clear HR_
      replace HM := Lib.hid (Blk.grown HM.out hg_ (fun e => by injection e with e; have := HGV.out; have := HGY.out; omega))
      replace HY := Lib.hid (Blk.grown HY.out hg_ (fun e => by injection e with e; have := HGV.out; have := HGY.out; omega))
      replace HE := Lib.hid hE_
      replace HZS := Lib.hid (Nat.le_trans HZS.out hg_.size)
      try clear hr_
      clear hx_ hE_ hg_
      try clear w_
      rename World => w_
      have HD := Lib.hid (show Cl 32 (v2.map B) from ⟨by rw [List.length_map]; exact (takeR_le HX2.out).1, fun u hu => all_bytes _ u hu⟩)
      have HDL := Lib.hid (takeR_le HX2.out).1
      go_wp2_with (first | (with_reducible refine wpl_storem (o := ⟨none, .store _ _ _, _, _, _, _⟩) rfl rfl row_aid HM.out rfl rfl HD.out.len (by rw [vs_len HKO.out]; omega) HD.out.one ?_))
      intro w2_ hb2_ hg2_ hsz2_
      have H1_ := Lib.hid (show Blk w2_ gv 33 (noCW.vs { kindC 9 with id := v2 }) by have e_ : splice (noCW.vs (kindC 9)) 41 (v2.map B) = noCW.vs { kindC 9 with id := v2 } := set_id HKO.out.2.2.2.1 HKO.out.2.2.2.2.2.2 HDL.out; rw [← e_]; exact hb2_)
      have H2_ := Lib.hid (Blk.grown HY.out hg2_ (fun e => by injection e with e; have := HGY.out; omega))
      have HE_ := Lib.hid (HE.out.off hg2_ (.inr (by have := HL.out; have := HGY.out; omega)))
      have HG_ := Lib.hid (grownBy_new HG.out hg2_ (by have := HN.out; have := HGY.out; omega))
      have HZS_ := Lib.hid (Nat.le_trans HZS.out hg2_.size)
      clear hb2_ hg2_ hsz2_ HM HY HE HG HZS
      have HM := H1_; have HY := H2_; have HE := HE_; have HG := HG_; have HZS := HZS_
      clear H1_ H2_ HE_ HG_ HZS_
      try clear w_
      rename World => w_
      replace HKO := Lib.hid (show ({ kindC 9 with id := v2 } : Cmd).ok from ⟨HKO.out.1, HKO.out.2.1, HKO.out.2.2.1, HKO.out.2.2.2.1, HKO.out.2.2.2.2.1, HKO.out.2.2.2.2.2.1, HDL.out⟩)
      go_wp2_with fail
      go_meet
      case rel => exact Lib.hid ⟨⟨{ kindC 9 with id := v2 }, [], []⟩, l2, none, 0, none, 0, 0, [], HR.out, HKO.out, HM.out, HY.out, TxtO.nil _ _, BBO.nil _ _, rfl, HE.out, HG.out⟩
    have y_9 := beq_fe (a := kz) (b := 9) (by rw [HKZ.out]; omega)
    replace HR := Lib.hid (HR.out.trans (if_neg h_9))
    have HM_ := Lib.hid (show Blk w_ gv 33 (noCW.vs (kindC (v0 : Int))) by rw [show (v0 : Int) = kz from HKZ.out.symm]; exact HM.out)
    have HKO_ := Lib.hid (show (kindC (v0 : Int)).ok by rw [show (v0 : Int) = kz from HKZ.out.symm]; exact HKO.out)
    clear HM HKO h_0 h_1 h_2 h_3 h_4 h_5 h_6 h_7 h_9
    have HM := HM_; have HKO := HKO_
    clear HM_ HKO_
    go_wp2_with fail
    go_meet
    case rel => exact Lib.hid ⟨⟨kindC (v0 : Int), [], []⟩, l0, none, 0, none, 0, 0, [], HR.out, HKO.out, HM.out, HY.out, TxtO.nil _ _, BBO.nil _ _, rfl, HE.out, HG.out⟩
  case rest =>
    obtain ⟨p, l', TA, tc, A, n, c, ps, hr, hok, hm, hy, ht, ho, hsn, he, hg⟩ := hcut.out
    clear HM HY HE HG HR HZS HKO hcut c0
    try clear w_
    rename World => w_
    have HM := Lib.hid hm; have HY := Lib.hid hy; have HE := Lib.hid he; have HG := Lib.hid hg; have HT := Lib.hid ht; have HO := Lib.hid ho
    have HFC := Lib.hid (vs_cl (q := noCW) hok)
    have HYC := Lib.hid (show Cl 2 [Value.slice TA p.t.length tc, .slice A n c] from ⟨rfl, fun u hu => by simp only [List.mem_cons, List.not_mem_nil, or_false] at hu; rcases hu with rfl | rfl <;> rfl⟩)
    have HRR := Lib.hid (show ∀ w', KpW w_ gv gy w' → LookedR w w' Lo Bd g l (.returned (.tuple #[.agg (noCW.vs p.m).toArray, .agg [Value.slice TA p.t.length tc, .slice A n c].toArray])) from fun w' hk => by
      have kb : ∀ b, b < w_.heap.size → b ≠ gv → b ≠ gy → w'.heap[b]? = w_.heap[b]? := fun b h1 h2 h3 => hk.block b ⟨h1, h2, h3⟩
      have e1 := HNE.out; have e2 := HZ.out; have e3 := HGY.out; have e4 := HL.out
      have kz : ∀ b, Z ≤ b → b < w_.heap.size → w'.heap[b]? = w_.heap[b]? := fun b h1 h2 => kb b h2 (by omega) (by omega)
      refine ⟨⟨hk.os.trans hg.os, hk.tape.trans hg.tape, hk.output.trans hg.output, Nat.le_trans hg.size hk.size, fun i hi hn => (kb i (Nat.lt_of_lt_of_le hi hg.size) (by omega) (by omega)).trans (hg.block i hi hn)⟩, .inr ⟨p, l', TA, tc, A, n, c, ps, by rw [← HRES.out]; exact hr, rfl, (ht.keep kz).base (by omega), (ho.keep kz).base (by omega), hsn, he.keep (fun j hj1 hj2 => kb j (by have := he.bd; omega) (by omega) (by omega)) hk.size⟩⟩)
    obtain ⟨w0, hw0⟩ : ∃ z, z = w_ := ⟨_, rfl⟩
    have HRR_ : Hid (∀ w', KpW w0 gv gy w' → LookedR w w' Lo Bd g l (.returned (.tuple #[.agg (noCW.vs p.m).toArray, .agg [Value.slice TA p.t.length tc, .slice A n c].toArray]))) := Lib.hid (by rw [hw0]; exact HRR.out)
    have HKK := Lib.hid (show KpW w0 gv gy w_ by rw [hw0]; exact Kept.refl _ _)
    clear hw0 HRR
    have HRR := HRR_
    clear HRR_
    obtain ⟨fv, hfv⟩ : ∃ z, z = noCW.vs p.m := ⟨_, rfl⟩
    obtain ⟨yv, hyv⟩ : ∃ z, z = [Value.slice TA p.t.length tc, .slice A n c] := ⟨_, rfl⟩
    rw [← hfv] at HM HFC HRR; rw [← hyv] at HY HYC HRR
    clear hr hok hm hy ht ho hsn he hg hfv hyv
    have HB := Lib.hid (Below.refl w_.heap.size w_)
    clear HE HG HT HO
    try go_wp2_with fail
    repeat' (first | (with_reducible refine wp_plan (id := 24) (fun a b => (a.grownBy b (some gv))) [2,1,4,3] (.get 0 (.get 1 (.act 2 (.act 3 .done)))) (by kernel_rfl) (by kernel_rfl) (fun a => grownBy_refl a _) (fun _ _ _ h k => grownBy_trans h k) ?_) | go_values | go_skip | go_guarded | go_step | go_upon | go_back)
    intro w_ hd_
    have hb_ := hd_.grow
    have HB_ := Lib.hid (HB.out.grow' hb_)
    clear HB
    have HB := HB_
    clear HB_
    have HM_ := Lib.hid (HM.out.grow hb_)
    clear HM
    have HM := HM_
    clear HM_
    have HY_ := Lib.hid (HY.out.grow hb_)
    clear HY
    have HY := HY_
    clear HY_
    have HKK_ := Lib.hid (HKK.out.grow hb_)
    clear HKK
    have HKK := HKK_
    clear HKK_
    clear hb_ hd_
    refine pl_loadbnow rfl rfl (by exact wanted_none rfl) rfl row_cmd HM.out (by first | rfl | (go_simp; done) | rfl) HFC.out.len (fun K hK => ?_)
    go_simp
    refine hK _ _ ?_
    clear hK K
    refine pl_loadmf rfl (by decide) (by exact wanted_none rfl) rfl row_texts (grownBy_refl _ _) (fun w3_ hf_ j u hu => by rw [Nat.zero_add]; exact (HY.out.grown hf_ (fun e => by injection e with e; have := HGY.out; omega)).at_ hu) (by first | rfl | (go_simp; done) | rfl) HYC.out.len (fun K hK => ?_)
    go_simp
    refine hK _ _ ?_
    clear hK K
    refine pl_act rfl (by exact wanted_none rfl) (fun K hK => ?_)
    show wpList _ _ _ [⟨none, .store _ _ _, _, _, _, _⟩] _ _
    go_wp2_with (first | (with_reducible refine wpl_storeb (o := ⟨none, .store _ _ _, _, _, _, _⟩) rfl rfl row_cmd HM.out rfl rfl HFC.out.len HFC.out.len HFC.out.one ?_))
    intro w2_ hb2_ hg2_ hsz2_
    go_wp2_with fail
    refine hK _ _ (fun _ => hg2_) ?_
    clear hK K
    have HM_ := Lib.hid hb2_
    have HY_ := Lib.hid (HY.out.grown hg2_ (fun e => by injection e with e; have := HGY.out; omega))
    have HKK_ := Lib.hid (HKK.out.put hg2_ (.inl rfl))
    clear hb2_ hg2_ hsz2_ HM HY HKK HB
    have HM := HM_; have HY := HY_; have HKK := HKK_
    clear HM_ HY_ HKK_
    refine pl_act rfl (by exact wanted_none rfl) (fun K hK => ?_)
    show wpList _ _ _ [⟨none, .store _ _ _, _, _, _, _⟩] _ _
    go_wp2_with (first | (with_reducible refine wpl_storeb (o := ⟨none, .store _ _ _, _, _, _, _⟩) rfl rfl row_texts HY.out rfl rfl HYC.out.len HYC.out.len HYC.out.one ?_))
    intro w4_ hb2_ hg2_ hsz2_
    go_wp2_with fail
    refine hK _ _ (fun h => by cases h) ?_
    clear hK K
    have HY_ := Lib.hid hb2_
    have HM_ := Lib.hid (HM.out.grown hg2_ (fun e => by injection e with e; have := HGY.out; omega))
    have HKK_ := Lib.hid (HKK.out.put hg2_ (.inr rfl))
    clear hb2_ hg2_ hsz2_
    refine pl_done ?_
    go_wp2_with fail
    refine ret_cells2 rfl row_cmd row_texts HM_.out HY_.out rfl rfl HFC.out.len HYC.out.len rfl ?_
    exact HRR.out _ HKK_.out
end Go.Proofs.Ytobmldegjajocaa

/- The example of seisinlaw11, and what is looked at. -/
import Derived.Test.YtphmefhnffoafaaGreatDoorCertTurnedU23
import Derived.Test.YtphmefhnffoafaaGreatDoorCertTurnedU21
import Derived.Test.YtphmefhnffoafaaGreatDoorCertTurnedU7
import Derived.Test.YtphmefhnffoafaaGreatDoorCertTurnedU19
import Derived.Test.YtphmefhnffoafaaGreatDoorCertTurnedU22
import Derived.Test.YtphmefhnffoafaaGreatDoorCertTurnedU13
set_option linter.unusedSimpArgs false
namespace Go.Proofs.YtphmefhnffoafaaGreatDoor
open Go.RowKit Go.Shelf
set_option linter.unusedVariables false
def Up (w0 w : World) : Prop := Grow w0 w
theorem Up.grow {w0 w w' : World} (h : Up w0 w) (k : Grow w w') : Up w0 w' := Below.grow' h k
theorem zero_entry : (Tryz.prog.info? 27).map (·.zero) = some (some (.agg (entV noEnt).toArray)) := by kernel_rfl
theorem len_entry : (entV noEnt).length = 37 := entV_length noEnt_ok
theorem ent_cl {x : Ent} (hx : x.ok) : Cl 37 (entV x) := ⟨entV_length hx, fun u hu => cert_one (.slice none 0 0) rfl ⟨x, [], noHdr, zeroD⟩ u (by simp [certV, hu])⟩
theorem hdr_cl {x : Hdr} (hx : x.ok) : Cl 67 (hdrV x) := ⟨hdrV_length hx, hdr_one x⟩
theorem mk_first {seed cmd : List UInt8} {N : Nat} {e o : Ent} {i : Int} (ho : okL e i = true) (hr : rightH (nextH noHdr true (leavesB cmd e i) e.shard e.epoch) = true) :
  mkOK seed N (leavesB cmd e i) e (nextH noHdr true (leavesB cmd e i) e.shard e.epoch) = decide (e.shard < N) := by
 have hls := leavesB_yes (c := cmd) ho
 have hre : rightE e = true := by unfold okL at ho; simp only [Bool.and_eq_true] at ho; exact ho.1
 have hsh : (nextH noHdr true (leavesB cmd e i) e.shard e.epoch).shard = e.shard := rfl
 have hep : (nextH noHdr true (leavesB cmd e i) e.shard e.epoch).epoch = e.epoch := rfl
 have hrt : (nextH noHdr true (leavesB cmd e i) e.shard e.epoch).root = rootB (leavesB cmd e i) := rfl
 generalize hh : nextH noHdr true (leavesB cmd e i) e.shard e.epoch = h at *
 have h0 : 0 ≤ e.shard := by have := rightE_iff.1 hre; omega
 have hm : midC (mkC seed N (leavesB cmd e i) e h) = true := by
  unfold midC mkC; simp only; rw [hre, hr, hsh, hep]; simp
 have ht : treeC (mkC seed N (leavesB cmd e i) e h) = true := by
  unfold treeC mkC; simp only [decide_eq_true_eq]
  rw [hrt]
  have hp := climbT_path (l := leavesB cmd e i) (i := 1) (x := putEB e) (by rw [hls]; rfl) (by rw [hls]; simp)
  rw [hls] at hp ⊢
  exact hp
 unfold mkOK isC
 rw [hr, hm, ht]
 simp only [Bool.true_and]
 unfold tagC mkC
 simp only
 rw [hsh]
 by_cases hlt : e.shard < N
 ·rw [if_pos ⟨h0, hlt⟩]; simp [hlt]
 ·simp [hlt]
theorem cert_set {v : Value} {c : Cer} (h : c.ok) {j : Nat} {y : UInt8} : (certV v c).set (105 + j) (B y) = certV v { c with tag := c.tag.set j y } := by
 have e : certV v c = (entV c.e ++ v :: hdrV c.h) ++ c.tag.map B := by simp [certV]
 have e2 : certV v { c with tag := c.tag.set j y } = (entV c.e ++ v :: hdrV c.h) ++ (c.tag.set j y).map B := by simp [certV]
 have hl : (entV c.e ++ v :: hdrV c.h).length = 105 := by rw [List.length_append, entV_length h.1, List.length_cons, hdrV_length h.2.2.1]
 rw [e, e2, List.set_append_right _ _ (by omega), hl, Nat.add_sub_cancel_left, List.map_set]
theorem isC_turned {seed : List UInt8} {N : Nat} {c : Cer} {t : List UInt8} (h : isC seed N c = true) (hne : t ≠ c.tag) : isC seed N { c with tag := t } = false := by
 unfold isC at h ⊢
 simp only [Bool.and_eq_true] at h
 have h2 := h.2
 unfold tagC at h2 ⊢
 simp only [Bool.and_eq_true, decide_eq_true_eq] at h2
 rw [Bool.and_eq_false_iff]; right
 rw [Bool.and_eq_false_iff]; right
 simp only [decide_eq_false_iff_not]
 rw [h2.2]; exact fun k => hne k.symm
theorem xor1_ne (x : UInt8) : x ^^^ 1 ≠ x := by
 intro h
 have h2 : x ^^^ (x ^^^ 1) = x ^^^ x := by rw [h]
 rw [← UInt8.xor_assoc, UInt8.xor_self, UInt8.zero_xor] at h2
 exact absurd h2 (by decide)
def ent11 : Ent := ⟨1, 1, zeroD, 7, 0, 0⟩
theorem ent11_ok : ent11.ok := by simp [ent11, Ent.ok, I64, U64, zeroD]
theorem bt_ent11 : Tryz.prog.built 27 [(0, .int .i64 1), (1, .int .i64 1), (3, .int .u64 7)] = some (entV ent11).toArray := by kernel_rfl
theorem okL_11 : okL ent11 9 = true := by decide
attribute [local go_sem high] xor_b
set_option maxRecDepth 100000 in
set_option maxHeartbeats 4000000 in
theorem awake11_any (w : World) (ht : Tabs w) : Calls Tryz.prog 4 #[] w fun e w' => e = .returned (.bool true) ∧ Below w.heap.size w w' := by
 have HT := kp ht
 have BE := kp bt_ent11
 have B0 := kp built_hdrE
 have LE := kp (fun A n c w hs hc hn => leaves_any A n c [1] ent11 9 w hs hc hn ent11_ok (show U64 9 by simp [U64]))
 rw [okL_11] at LE
 have hrt0 : rightH (nextH noHdr true (leavesB [1] ent11 9) ent11.shard ent11.epoch) = true := by unfold nextH; rfl
 have hmk := mk_first (seed := [3]) (cmd := [1]) (N := 2) (o := ent11) okL_11 hrt0
 rw [show decide (ent11.shard < ((2 : Nat) : Int)) = true from rfl] at hmk
 obtain ⟨ls, hls⟩ : ∃ ls, ls = leavesB [1] ent11 9 := ⟨_, rfl⟩
 have HL3 := kp (show ls.length = 3 by rw [hls, leavesB_yes okL_11]; rfl)
 have HLM := kp (show ∀ l ∈ ls, l.length ≤ 1000000 by
  intro l hl
  rw [hls, leavesB_yes okL_11] at hl
  have h1 := putEB_len ent11_ok (by decide)
  have h2 := numB_le (n := 9) (by omega)
  simp only [List.mem_cons, List.not_mem_nil, or_false] at hl
  rcases hl with rfl | rfl | rfl
  ·simp
  ·omega
  ·show (numB 9).length ≤ _; omega)
 rw [← hls] at LE hmk
 clear hls hrt0
 have HOK := kp (show nextOK noHdr true ls 1 0 = true by unfold nextOK nextH; rw [HL3.out]; rfl)
 have NX := kp (fun A c w hl ht => next_any noHdr true A 3 c ls 1 0 w noHdr_ok hl HL3.out.symm (by omega) HLM.out (show I64 1 by simp [I64]) (show I64 0 by simp [I64]) ht)
 have HNB := nextB_yes HOK.out
 rw [HNB, HOK.out] at NX
 clear HNB
 have HNO : (nextH noHdr true ls 1 0).ok := ⟨by simp [I64, nextH], by simp [I64, nextH], by simp [I64, nextH], by simp [nextH, zeroD], rootB_len ls⟩
 rw [show nextH noHdr true ls ent11.shard ent11.epoch = nextH noHdr true ls 1 0 from rfl] at hmk
 have HMC := mkC_ok (seed := [3]) (N := 2) (ls := ls) ent11_ok HNO
 have HIS : isC [3] 2 (mkC [3] 2 ls ent11 (nextH noHdr true ls 1 0)) = true := by unfold mkOK at hmk; simp only [Bool.and_eq_true] at hmk; exact hmk.2
 have MK := kp (fun g A c A2 c2 w hr hl ht => cmake_any (seed := [3]) (g := g) (A := A) (N := 2) (c := c) (A2 := A2) (n2 := 3) (c2 := c2) (ls := ls) hmk (show mkR [3] 2 ls ent11 (nextH noHdr true ls 1 0) = mkC [3] 2 ls ent11 (nextH noHdr true ls 1 0) by unfold mkR; rw [if_pos hmk]) w hr (by omega) ent11_ok HNO hl HL3.out.symm (by omega) HLM.out ht)
 have HHD := kp (hdr_cl HNO)
 have HED := kp (ent_cl ent11_ok)
 have Z1 := kp (hdrV_length noHdr_ok)
 obtain ⟨y, hy⟩ : ∃ y, y = mkC [3] 2 ls ent11 (nextH noHdr true ls 1 0) := ⟨_, rfl⟩
 rw [← hy] at MK HMC HIS
 obtain ⟨hv, hhv⟩ : ∃ v, v = hdrV (nextH noHdr true ls 1 0) := ⟨_, rfl⟩
 rw [← hhv] at NX HHD MK
 obtain ⟨nz, hnz⟩ : ∃ v, v = hdrV noHdr := ⟨_, rfl⟩
 rw [← hnz] at NX B0
 obtain ⟨ev, hev⟩ : ∃ v, v = entV ent11 := ⟨_, rfl⟩
 rw [← hev] at BE LE HED MK
 clear hy hhv hnz hev ht hmk HNO
 obtain ⟨b5, hb5⟩ : ∃ b, y.tag[5]? = some b := ⟨_, List.getElem?_eq_getElem (by rw [HMC.2.2.2]; omega)⟩
 have HTN : y.tag.set 5 (b5 ^^^ 1) ≠ y.tag := by
  intro h
  have h1 : (y.tag.set 5 (b5 ^^^ 1))[5]? = y.tag[5]? := by rw [h]
  rw [List.getElem?_set_self (by rw [HMC.2.2.2]; omega), hb5] at h1
  exact xor1_ne b5 (Option.some.inj h1)
 have HOK2 : ({ y with tag := y.tag.set 5 (b5 ^^^ 1) } : Cer).ok := ⟨HMC.1, HMC.2.1, HMC.2.2.1, by show (y.tag.set 5 (b5 ^^^ 1)).length = 32; rw [List.length_set]; exact HMC.2.2.2⟩
 have I1 := kp (fun g A c A2 n2 c2 w hr hn hi ht => cis_any (seed := [3]) (g := g) (A := A) (N := 2) (c := c) (A2 := A2) (n2 := n2) (c2 := c2) HIS w hr (by omega) HMC hn hi ht)
 have I2 := kp (fun A2 n2 c2 w => cis_nil (A2 := A2) (n2 := n2) (c2 := c2) w HMC)
 have I3 := kp (fun g A c A2 n2 c2 w hr hn hi ht => cis_any (seed := [3]) (g := g) (A := A) (N := 2) (c := c) (A2 := A2) (n2 := n2) (c2 := c2) (isC_turned HIS HTN) w hr (by omega) HOK2 hn hi ht)
 have CL := kp (fun (A : Option Addr) (n c : Nat) => cert_cl (v := .slice A n c) rfl HMC)
 have C5 := kp (fun (A : Option Addr) (n c : Nat) => cert_t (v := .slice A n c) HMC (j := 5) (u := B b5) (by rw [List.getElem?_map, hb5]; rfl))
 have CS := kp (fun (A : Option Addr) (n c : Nat) => cert_set (v := .slice A n c) HMC (j := 5) (y := b5 ^^^ 1))
 clear hb5 HTN HMC HIS HOK2
 have HB := kp (Below.refl w.heap.size w)
 go_enter Tryz.func4, Tryz.ntmps4
 go_wp2_with fail
 generalize hw_ : World.alloc w _ = w2_
 obtain ⟨hX_, hb_, hs_⟩ := alloc_eq hw_
 have HLR := kp hX_
 clear hw_ hX_
 replace HB := kp (HB.out.grow' hb_)
 replace HT := kp (HT.out.grow hb_)
 clear hb_ hs_
 rename World => w_
 have HS := kp (show Sl w_ w_.heap.size 1 (some ⟨w.heap.size, 0, none⟩) 1 ([3].map B) from HLR.out.sl rfl)
 go_wp2_with fail
 refine (keys_yes _ 1 1 2 [3] _ HS.out (by omega) (by omega) (by omega) (by omega) HT.out).mono ?_
 rintro e w_ ⟨g, A1, c1, rfl, hr_, hb_⟩
 replace HB := kp (HB.out.grow' hb_)
 replace HT := kp (HT.out.grow hb_)
 clear hb_
 have HRA := kp hr_
 clear hr_ HLR HS
 go_wp2_with (first | (with_reducible refine wpl_stop (o := ⟨some 11, _, _, _, _, _⟩) ?_))
 refine stop_go ?_
 refine wpl_build rfl rfl BE.out ?_
 go_wp2_with (first | (with_reducible refine wpl_alloc (o := ⟨some 2, _, _, _, _, _⟩) rfl rfl zero_entry ?_))
 intro w1_ hb1_ hbw1_ hsz1_
 have HB1_ := kp (at_mk hb1_ len_entry)
 have HBW1_ := kp hbw1_
 have HZ1_ := kp hsz1_
 clear hb1_ hbw1_ hsz1_
 go_wp2_with (first | (with_reducible refine wpl_storeb (o := ⟨none, .store _ _ _, _, _, _, _⟩) rfl rfl row_entry HB1_.out.blk rfl rfl HB1_.out.len HED.out.len HED.out.one ?_))
 intro w2_ hb2_ hg2_ hsz2_
 have hb_ := var_grow HBW1_.out HZ1_.out hg2_
 have HX_ := kp (at_mk hb2_ HED.out.len)
 clear hb2_ hg2_ hsz2_ HB1_ HBW1_ HZ1_
 replace HB := kp (HB.out.grow' hb_)
 replace HRA := kp (HRA.out.grow hb_)
 replace HT := kp (HT.out.grow hb_)
 generalize hg_ : w_.heap.size = ge at HX_ ⊢
 clear hg_
 have HE := HX_
 clear hb_ HX_
 clear w1_
 try clear w_
 rename World => w_
 go_wp2_with (first | (with_reducible refine wpl_stop (o := ⟨some 14, _, _, _, _, _⟩) ?_))
 refine stop_go ?_
 generalize hw1 : World.alloc w_ _ = w1_
 obtain ⟨hX, hb_, hs⟩ := alloc_eq hw1
 have HX1 := kp (show Sl w1_ w1_.heap.size 1 (some ⟨w_.heap.size, 0, none⟩) 1 (([1] : List UInt8).map B) from Blk.sl (sz := 1) (n := 1) hX rfl)
 clear hX hs hw1
 have hb_ := hb_
 clear hb_
 replace HB := kp (HB.out.grow' hb_)
 replace HE := kp (HE.out.grow hb_)
 replace HRA := kp (HRA.out.grow hb_)
 replace HT := kp (HT.out.grow hb_)
 clear hb_
 try clear w_
 rename World => w_
 go_wp2_with (first | (with_reducible refine wpl_loadb (o := ⟨_, .load _ _, _, _, _, _⟩) rfl rfl row_entry HE.out.blk rfl HE.out.len ?_) | (with_reducible refine wpl_loadw (o := ⟨_, .load _ _, _, _, _, _⟩) (by first | rfl | (go_simp; done) | fail) rfl row_entry HE.out.blk rfl HE.out.len ?_))
 refine (LE.out _ 1 1 _ HX1.out (Nat.le_refl _) (by omega)).mono ?_
 rintro e w2_ ⟨A2, n2, c2, rfl, hl2, hn2, hb_⟩
 rw [HL3.out] at hn2
 subst hn2
 have HL2 := kp hl2
 clear hl2 HX1 LE
 have hb_ := hb_
 clear hb_
 replace HB := kp (HB.out.grow' hb_)
 replace HE := kp (HE.out.grow hb_)
 replace HRA := kp (HRA.out.grow hb_)
 replace HT := kp (HT.out.grow hb_)
 clear hb_
 try clear w_
 rename World => w_
 go_wp2_with (first | (with_reducible refine wpl_stop (o := ⟨some 19, _, _, _, _, _⟩) ?_))
 refine stop_go ?_
 refine wpl_build rfl rfl B0.out ?_
 go_wp2_with fail
 refine (NX.out _ _ _ HL2.out HT.out).mono ?_
 rintro e w2_ ⟨rfl, hb_⟩
 clear NX B0
 have hb_ := hb_
 clear hb_
 replace HB := kp (HB.out.grow' hb_)
 replace HE := kp (HE.out.grow hb_)
 replace HRA := kp (HRA.out.grow hb_)
 replace HT := kp (HT.out.grow hb_)
 replace HL2 := kp (HL2.out.grow hb_)
 clear hb_
 try clear w_
 rename World => w_
 go_wp2_with (first | (with_reducible refine wpl_alloc (o := ⟨some 5, _, _, _, _, _⟩) rfl rfl zero_header ?_))
 intro w1_ hb1_ hbw1_ hsz1_
 have HB1_ := kp (at_mk hb1_ len_header)
 have HBW1_ := kp hbw1_
 have HZ1_ := kp hsz1_
 clear hb1_ hbw1_ hsz1_
 go_wp2_with (first | (with_reducible refine wpl_storeb (o := ⟨none, .store _ _ _, _, _, _, _⟩) rfl rfl row_header HB1_.out.blk rfl rfl HB1_.out.len HHD.out.len HHD.out.one ?_))
 intro w2_ hb2_ hg2_ hsz2_
 have hb_ := var_grow HBW1_.out HZ1_.out hg2_
 have HX_ := kp (at_mk hb2_ HHD.out.len)
 clear hb2_ hg2_ hsz2_ HB1_ HBW1_ HZ1_
 replace HB := kp (HB.out.grow' hb_)
 replace HE := kp (HE.out.grow hb_)
 replace HRA := kp (HRA.out.grow hb_)
 replace HT := kp (HT.out.grow hb_)
 replace HL2 := kp (HL2.out.grow hb_)
 generalize hg_ : w_.heap.size = gh at HX_ ⊢
 clear hg_
 have HH := HX_
 clear hb_ HX_
 clear w1_
 try clear w_
 rename World => w_
 go_wp2_with (first | (with_reducible refine wpl_loadb (o := ⟨_, .load _ _, _, _, _, _⟩) rfl rfl row_entry HE.out.blk rfl HE.out.len ?_) | (with_reducible refine wpl_loadw (o := ⟨_, .load _ _, _, _, _, _⟩) (by first | rfl | (go_simp; done) | fail) rfl row_entry HE.out.blk rfl HE.out.len ?_) | (with_reducible refine wpl_loadb (o := ⟨_, .load _ _, _, _, _, _⟩) rfl rfl row_header HH.out.blk rfl HH.out.len ?_) | (with_reducible refine wpl_loadw (o := ⟨_, .load _ _, _, _, _, _⟩) (by first | rfl | (go_simp; done) | fail) rfl row_header HH.out.blk rfl HH.out.len ?_))
 refine (MK.out _ _ _ _ _ _ HRA.out HL2.out HT.out).mono ?_
 rintro e w2_ ⟨A3, n3, c3, rfl, hi_, hn3, _, hb_⟩
 have HI := kp hi_
 have HN3 := kp hn3
 clear hi_ hn3 MK
 have hb_ := hb_
 clear hb_
 replace HB := kp (HB.out.grow' hb_)
 replace HRA := kp (HRA.out.grow hb_)
 replace HT := kp (HT.out.grow hb_)
 clear hb_
 try clear w_
 rename World => w_
 have CL3 := kp (CL.out A3 n3 c3); have C53 := kp (C5.out A3 n3 c3); have CS3 := kp (CS.out A3 n3 c3)
 have I13 := kp (fun g A c w => I1.out g A c A3 n3 c3 w); have I23 := kp (fun w => I2.out A3 n3 c3 w); have I33 := kp (fun g A c w => I3.out g A c A3 n3 c3 w)
 clear CL C5 CS I1 I2 I3
 obtain ⟨cv, hcv⟩ : ∃ v, v = certV (.slice A3 n3 c3) y := ⟨_, rfl⟩
 obtain ⟨cu, hcu⟩ : ∃ v, v = certV (.slice A3 n3 c3) { y with tag := y.tag.set 5 (b5 ^^^ 1) } := ⟨_, rfl⟩
 rw [← hcv] at CL3 C53 CS3 I13 I23 ⊢
 rw [← hcu] at CS3 I33
 clear hcv hcu
 go_wp2_with (first | (with_reducible refine wpl_alloc (o := ⟨some 7, _, _, _, _, _⟩) rfl rfl zero_cert ?_))
 intro w1_ hb1_ hbw1_ hsz1_
 have HC1 := kp (at_mk hb1_ len_cert)
 have HU1 := kp hbw1_
 have HB1 := kp (HB.out.grow' hbw1_)
 have HG := kp HB.out.size
 have HG2 := kp (Nat.le_refl w_.heap.size)
 generalize hg_ : w_.heap.size = gc at HC1 HG HG2 ⊢
 rw [← hg_] at HG2
 have HG3 := kp (show w_.heap.size ≤ gc by rw [hg_]; exact Nat.le_refl _)
 clear hb1_ hbw1_ hsz1_ HG2 hg_
 go_wp2_with (first | (with_reducible refine wpl_storeb (o := ⟨none, .store _ _ _, _, _, _, _⟩) rfl rfl row_cert HC1.out.blk rfl rfl HC1.out.len CL3.out.len CL3.out.one ?_))
 intro w2_ hb2_ hg2_ hsz2_
 have HC := kp (at_mk hb2_ CL3.out.len)
 have HU := kp (show Up w_ w2_ from put_below HU1.out HG3.out hg2_)
 have HB2 := kp (put_below HB1.out HG.out hg2_)
 clear hb2_ hg2_ hsz2_ HC1 HU1 HB1 HB
 have HB := HB2
 clear HB2
 clear w1_
 rename World => w_
 go_wp2_with (first | (with_reducible refine wpl_loadb (o := ⟨_, .load _ _, _, _, _, _⟩) rfl rfl row_cert HC.out.blk rfl HC.out.len ?_) | (with_reducible refine wpl_loadw (o := ⟨_, .load _ _, _, _, _, _⟩) (by first | rfl | (go_simp; done) | fail) rfl row_cert HC.out.blk rfl HC.out.len ?_))
 refine (I13.out _ _ _ _ (HRA.out.grow HU.out) HN3.out (HI.out.grow HU.out) (HT.out.grow HU.out)).mono ?_
 rintro e w2_ ⟨rfl, hb_⟩
 clear I13
 have hb_ := hb_
 clear hb_
 replace HB := kp (HB.out.grow' hb_)
 replace HC := kp (HC.out.grow hb_)
 replace HU := kp (HU.out.grow hb_)
 clear hb_
 try clear w_
 rename World => w_
 go_wp2_with (first | (with_reducible refine wpl_loadb (o := ⟨_, .load _ _, _, _, _, _⟩) rfl rfl row_cert HC.out.blk rfl HC.out.len ?_) | (with_reducible refine wpl_loadw (o := ⟨_, .load _ _, _, _, _, _⟩) (by first | rfl | (go_simp; done) | fail) rfl row_cert HC.out.blk rfl HC.out.len ?_))
 refine (I23.out _).mono ?_
 rintro e w2_ ⟨rfl, hb_⟩
 clear I23
 have hb_ := hb_
 clear hb_
 replace HB := kp (HB.out.grow' hb_)
 replace HC := kp (HC.out.grow hb_)
 replace HU := kp (HU.out.grow hb_)
 clear hb_
 try clear w_
 rename World => w_
 have c5 : w_.cell? ⟨gc, 110, none⟩ = some (.int .u8 (b8 b5)) := HC.out.blk.at_ C53.out
 have hx1 : Op.intBits .xor .u8 (b8 b5) 1 = pure (.int .u8 (b8 (b5 ^^^ 1))) := xor_b b5 1
 go_wp2_with (first | (refine wpl_store1 (o := ⟨none, .store _ _ _, _, _, _, _⟩) rfl rfl HC.out.blk rfl rfl (by kernel_rfl) rfl rfl (by have := HC.out.len; omega) ?_))
 intro w2_ hb2_ hg2_ hsz2_
 have HC2 := kp (show At w2_ gc 35 137 cu by rw [← CS3.out]; exact at_mk hb2_ ((List.length_set ..).trans HC.out.len))
 have HU2 := kp (show Up _ w2_ from put_below HU.out HG3.out hg2_)
 have HB2 := kp (put_below HB.out HG.out hg2_)
 clear hb2_ hg2_ hsz2_ c5 HC HU HB
 have HC := HC2; have HU := HU2; have HB := HB2
 clear HC2 HU2 HB2
 try clear w_
 rename World => w_
 have HCL := kp HC.out.len
 go_wp2_with (first | (with_reducible refine wpl_loadb (o := ⟨_, .load _ _, _, _, _, _⟩) rfl rfl row_cert HC.out.blk rfl HC.out.len ?_) | (with_reducible refine wpl_loadw (o := ⟨_, .load _ _, _, _, _, _⟩) (by first | rfl | (go_simp; done) | fail) rfl row_cert HC.out.blk rfl HC.out.len ?_))
 refine (I33.out _ _ _ _ (HRA.out.grow HU.out) HN3.out (HI.out.grow HU.out) (HT.out.grow HU.out)).mono ?_
 rintro e w2_ ⟨rfl, hb_⟩
 have hb_ := hb_
 clear hb_
 replace HB := kp (HB.out.grow' hb_)
 clear hb_
 try clear w_
 rename World => w_
 go_wp2_with fail
 go_ret
 exact ⟨rfl, HB.out⟩
end Go.Proofs.YtphmefhnffoafaaGreatDoor
namespace Go.Proofs.YtphmefhnffoafaaGreatDoor
open Go.RowKit Go.Shelf
set_option linter.unusedVariables false
set_option maxRecDepth 100000 in
set_option maxHeartbeats 2000000 in
theorem ptextk_any (g : Nat) (K : Nat → Prop) (xs : List UInt8) {A : Option Addr} {n c : Nat} {bs : List UInt8} (w : World) (h : PenAt w K g xs) (hbn : bs.length = n) (hs : ∀ w', Kept K w w' → Sl w' w'.heap.size 1 A n (bs.map B)) (hl : xs.length + n ≤ 900000) :
  Calls Tryz.prog 24 #[.pointer (some ⟨g, 0, none⟩), .slice A n c] w fun e w' => e = .returned (.tuple #[]) ∧ PenAt w' K g (xs ++ (numB n ++ bs)) ∧ Kept K w w' := by
 have HP := kp h
 have HS := kp hs
 have HBN := kp hbn
 have HU := kp (numB_le (n := n) (by omega))
 have q1 := conv_u64' (n := n) (by omega)
 clear h hs hbn
 go_enter Tryz.func24, Tryz.ntmps24
 go_wp2_with fail
 refine (num_any g n K xs _ HP.out (by omega) (by omega)).mono ?_
 rintro e w2_ ⟨rfl, hp_, hk_⟩
 have HK := kp hk_
 have HS2 := kp (HS.out _ hk_)
 obtain ⟨ys, hys⟩ : ∃ ys, ys = xs ++ numB n := ⟨_, rfl⟩
 have HYE := kp (show ys ++ bs = xs ++ (numB n ++ bs) by rw [hys, List.append_assoc])
 have HYL := kp (show ys.length ≤ xs.length + 9 by rw [hys, List.length_append]; have := HU.out; omega)
 rw [← hys] at hp_
 obtain ⟨Ap, cp, hq1, hq2, hq3, hq4⟩ := hp_
 have HPB := kp hq1
 have HPO := kp hq2
 have HPK := kp hq3
 have HPN := kp hq4
 have hcl := hq1.at_ (i := 0) rfl
 have hyl := HYL.out
 have HONE := kp (all_bytes bs)
 clear hk_ hq1 hq2 hq3 hq4 HS HP q1 hys
 go_wp2_with (first | (at_builtin; refine wpl_apps rfl rfl el_u8 HPO.out rfl HS2.out rfl HONE.out (by omega) (by omega) (Nat.zero_le _) ?_))
 intro A3 c3 w3_ ho_ hg_ hA_
 have hll : (ys ++ bs).length = ys.length + n := by rw [List.length_append, HBN.out]
 have HPB3 := kp (HPB.out.grown hg_ (fun e => (HPN.out e.symm).elim))
 have HAP := kp (pen_app (ys := ys ++ bs) (A' := A3) (c' := c3) HPB.out HPO.out HPK.out HPN.out (by rw [hll, List.map_append]; exact ho_) hg_ (fun b hb => hA_.elim (fun h => .inl (h.symm.trans hb)) (fun h => .inr (by obtain ⟨a, h1, h2⟩ := h; subst h1; have h3 : a.block = b := Option.some.inj hb; omega))))
 rw [hll] at HAP
 clear ho_ hg_ hA_ hcl hll
 have hcl := HPB3.out.at_ (i := 0) rfl
 have hfz := HPB3.out.frozen 0
 go_wp2_with fail
 refine bodyPost_end (results_none rfl _ _ _) rfl ?_
 exact ⟨rfl, by rw [← HYE.out]; exact HAP.out.1, HK.out.trans HAP.out.2⟩
def Kz (gp Z : Nat) : Nat → Prop := fun j => j < Z ∧ j ≠ gp
theorem kz_sl {w w' : World} {gp Z n : Nat} {A X : Option Addr} {k c : Nat} {bs : List UInt8} (h : Sl w w.heap.size 1 A n (bs.map B)) (hp : Blk w gp 62 [.slice X k c]) (hk : Kept (Kz gp Z) w w') (hz : w.heap.size ≤ Z) : Sl w' w'.heap.size 1 A n (bs.map B) := by
 refine ⟨h.1, fun hn => ?_⟩
 obtain ⟨b, off, e, hb, hc⟩ := h.2 hn
 have hne : b ≠ gp := by
  intro e2
  subst e2
  have hl : 0 < (bs.map B).length := by have := h.1; omega
  have h0 := hc 0 _ (List.getElem?_eq_getElem hl)
  rw [Nat.add_zero, hp.cell, List.getElem_map] at h0
  cases off with
  | zero => simp [B] at h0
  | succ o => simp at h0
 refine ⟨b, off, e, Nat.lt_of_lt_of_le hb hk.size, fun j u hu => ?_⟩
 exact (World.cell?_of_block (a := ⟨b, off + j, none⟩) (hk.block b ⟨by omega, hne⟩)).trans (hc j u hu)
theorem kz_low {w w' : World} {gp Z : Nat} (hk : Kept (Kz gp Z) w w') (hz : gp ≤ Z) : Below gp w w' := hk.below (fun j hj => ⟨by omega, by omega⟩)
theorem kz_at {w w' : World} {gp Z g n : Nat} {T : TypeId} {xs : List Value} (h : At w g T n xs) (hk : Kept (Kz gp Z) w w') (h1 : g < Z) (h2 : g ≠ gp) : At w' g T n xs := ⟨hk.blk h.1 ⟨h1, h2⟩, h.2⟩
theorem kz_pen {w w1 : World} {gp : Nat} {xs : List UInt8} (h : PenAt w (fun j => j < gp) gp xs) (hk : Grow w w1) (hl : gp + 1 = w.heap.size) : PenAt w1 (Kz gp w1.heap.size) gp xs :=
 h.more hk (fun j hj => by
  by_cases hlt : j < gp
  ·exact .inl hlt
  ·exact .inr ⟨by have := hj.2; omega, hj.1⟩)
def putCB (c : Cer) : List UInt8 := numB (eformB c.e).length ++ eformB c.e ++ numB c.path.length ++ c.path.flatten ++ numB (hformB c.h).length ++ hformB c.h ++ c.tag
theorem eformB_le {x : Ent} (h : x.ok) : (eformB x).length ≤ 77 := by
 unfold eformB; split
 ·rename_i h1; exact putEB_len h h1
 ·simp
theorem hformB_le {x : Hdr} (h : x.ok) : (hformB x).length ≤ 91 := by
 unfold hformB; split
 ·rename_i h1; exact putHB_len h h1
 ·simp
theorem flat_32 : ∀ (ds : List (List UInt8)), (∀ d ∈ ds, d.length = 32) → ds.flatten.length = ds.length * 32
 | [], _ => rfl
 | d :: ds, h => by
  rw [List.flatten_cons, List.length_append, h d (by simp), flat_32 ds (fun x hx => h x (by simp [hx])), List.length_cons]; omega
theorem flat_take {ds : List (List UInt8)} {k : Nat} {d : List UInt8} (h : ds[k]? = some d) : (ds.take (k + 1)).flatten = (ds.take k).flatten ++ d := by
 rw [List.take_add_one, h, Option.toList_some, List.flatten_append]; simp
theorem own_lower {w : World} {base base' n c sz : Nat} {e : TypeId} {A : Option Addr} {xs : List Value} (h : w.ownsRow base e sz (.slice A n c) n xs) (k : base' ≤ base) : w.ownsRow base' e sz (.slice A n c) n xs := by
 refine ⟨h.1, ?_⟩
 rcases h.2 with h | ⟨b, cap, cur, hv, hle, hr⟩
 ·exact .inl h
 ·exact .inr ⟨b, cap, cur, hv, Nat.le_trans k hle, hr⟩
set_option maxRecDepth 100000 in
set_option maxHeartbeats 4000000 in
theorem cputo_any {A2 : Option Addr} {n2 c2 : Nat} {x : Cer} (w : World) (hx : x.ok) (hn : n2 ≤ 1000) (hi : Ids w A2 n2 c2 x.path) :
  Calls Tryz.prog 7 #[.agg (certV (.slice A2 n2 c2) x).toArray] w fun e w' => ∃ A' c', e = .returned (.slice A' (putCB x).length c') ∧ OwnAt w' w.heap.size A' (putCB x).length c' ((putCB x).map B) ∧ (putCB x).length ≤ c' ∧ Below w.heap.size w w' := by
 have HI := kp hi
 have HB := kp (Below.refl w.heap.size w)
 have HE := kp (fun w => eput_any x.e w hx.1); have HH := kp (fun w => hput_any x.h w hx.2.2.1)
 have LEB := kp (eformB_le hx.1); have LHB := kp (hformB_le hx.2.2.1)
 have HD := kp (cert_cl (v := .slice A2 n2 c2) rfl hx)
 have LE := kp (entV_length hx.1); have LH := kp (hdrV_length hx.2.2.1)
 have DT := kp (dig_map hx.2.2.2)
 have IA := kp (cert_ats (v := .slice A2 n2 c2) hx)
 have ME := kp (fun w g t hb => midCE (c := x) (v := .slice A2 n2 c2) (w := w) (g := g) (t := t) hb)
 have MH := kp (fun w g t hb => midCH (c := x) (v := .slice A2 n2 c2) (w := w) (g := g) (t := t) hx hb)
 have MT := kp (fun w g t hb => midCT (c := x) (v := .slice A2 n2 c2) (w := w) (g := g) (t := t) hx hb)
 have HNL := kp hi.2.1
 have HFL := kp (show ∀ k, ((x.path.take k).flatten).length ≤ n2 * 32 from fun k => by
  have h := flat_32 (x.path.take k) (fun d hd => hx.2.1 d (List.mem_of_mem_take hd))
  have h2 : (x.path.take k).length ≤ n2 := by rw [List.length_take, hi.2.1]; omega
  omega)
 obtain ⟨eb, heb⟩ : ∃ v, v = eformB x.e := ⟨_, rfl⟩
 obtain ⟨hb, hhb⟩ : ∃ v, v = hformB x.h := ⟨_, rfl⟩
 obtain ⟨ps, hps⟩ : ∃ k, k = x.path := ⟨_, rfl⟩
 obtain ⟨tg, htg⟩ : ∃ k, k = x.tag := ⟨_, rfl⟩
 have HPUT := kp (show putCB x = numB eb.length ++ eb ++ numB ps.length ++ ps.flatten ++ numB hb.length ++ hb ++ tg by rw [heb, hhb, hps, htg]; rfl)
 obtain ⟨out, hout⟩ : ∃ v, v = putCB x := ⟨_, rfl⟩
 rw [← hout] at HPUT ⊢
 rw [← heb] at HE LEB
 rw [← hhb] at HH LHB
 rw [← hps] at HI HNL HFL
 rw [← htg] at DT MT
 obtain ⟨ne, hne⟩ : ∃ v, v = eb.length := ⟨_, rfl⟩
 obtain ⟨nh, hnh⟩ : ∃ v, v = hb.length := ⟨_, rfl⟩
 have HNE := kp hne; have HNH := kp hnh
 rw [← hne] at HE LEB HPUT
 rw [← hnh] at HH LHB HPUT
 rw [HNL.out] at HPUT
 obtain ⟨xv, hxv⟩ : ∃ v, v = certV (.slice A2 n2 c2) x := ⟨_, rfl⟩
 obtain ⟨ev, hev⟩ : ∃ v, v = entV x.e := ⟨_, rfl⟩
 obtain ⟨hv, hhv⟩ : ∃ v, v = hdrV x.h := ⟨_, rfl⟩
 obtain ⟨tv, htv⟩ : ∃ v, v = tg.map B := ⟨_, rfl⟩
 rw [← hxv] at HD IA ME MH MT ⊢
 rw [← hev] at HE LE ME
 rw [← hhv] at HH LH MH
 rw [← htv] at DT MT
 have le9 := numB_le (n := ne) (by have := LEB.out; omega); have lh9 := numB_le (n := nh) (by have := LHB.out; omega); have ln9 := numB_le (n := n2) (by omega)
 have LNE := kp le9; have LNH := kp lh9; have LN9 := kp ln9
 clear hi hx heb hhb hps htg hout hne hnh hxv hev hhv htv le9 lh9 ln9
 go_enter Tryz.func7, Tryz.ntmps7
 obtain ⟨g0, hg0⟩ : ∃ q, q = w.heap.size := ⟨_, rfl⟩
 go_wp2_with (first | (with_reducible refine wpl_box (o := ⟨some 1, _, _, _, _, _⟩) rfl rfl rfl ?_))
 intro w2_ hb2_ hb_ hsz2_
 have HX_ := kp (at_mk hb2_ HD.out.len)
 clear hb2_ hsz2_
 replace HB := kp (HB.out.grow' hb_)
 replace HI := kp (HI.out.grow hb_)
 have HX := HX_
 clear hb_ HX_
 try clear w_
 rename World => w_
 go_wp2_with (first | (with_reducible refine wpl_alloc (o := ⟨some 3, _, _, _, _, _⟩) rfl rfl zero_pen ?_))
 intro w4 hb4 hbw4 hsz4
 obtain ⟨gp, hgp⟩ : ∃ q, q = w_.heap.size := ⟨_, rfl⟩
 have HG1 := kp (show w.heap.size < gp by have h1 := HX.out.lt; omega)
 have HX4 := kp (HX.out.grow hbw4)
 have HI4 := kp (HI.out.grow hbw4)
 have HB4 := kp (HB.out.grow' hbw4)
 rw [← hgp] at hb4 hsz4 ⊢
 have HP := kp (show PenAt w4 (fun j => j < gp) gp [] from PenAt.new hb4 (fun k hk => by omega))
 have HPB := kp hb4
 have HZ4 := kp (show gp + 1 = w4.heap.size by omega)
 clear hb4 hbw4 hsz4 hgp HX HB HI
 have HU := kp (show Up w4 w4 from Grow.refl _)
 have HX := HX4; have HI := HI4; have HB := HB4
 clear HX4 HI4 HB4
 have FME := kp (ME.out _ _ _ HX.out.blk)
 go_wp2_with (first | (with_reducible refine wpl_loadm (o := ⟨some 12, _, _, _, _, _⟩) rfl rfl row_entry FME.out rfl LE.out ?_))
 refine (HE.out _).mono ?_
 rintro e w2_ ⟨A3, c3, rfl, hs3, hc3, hb_⟩
 have HS3 := kp hs3
 clear hs3 hc3 FME HE ME
 replace HX := kp (HX.out.grow hb_)
 replace HI := kp (HI.out.grow hb_)
 replace HB := kp (HB.out.grow' hb_)
 replace HPB := kp (HPB.out.grow hb_)
 replace HU := kp (HU.out.grow hb_)
 clear hb_
 rename World => w_
 have FMH := kp (MH.out _ _ _ HX.out.blk)
 go_wp2_with (first | (with_reducible refine wpl_loadm (o := ⟨some 18, _, _, _, _, _⟩) rfl rfl row_header FMH.out rfl LH.out ?_))
 refine (HH.out _).mono ?_
 rintro e w6 ⟨A4, c4, rfl, hs4, hc4, hb_⟩
 have HS4 := kp hs4
 clear hs4 hc4 FMH HH MH
 have HS3_ := kp (HS3.out.grow hb_)
 have HU_ := kp (HU.out.grow hb_)
 have HX_ := kp (HX.out.grow hb_); have HI_ := kp (HI.out.grow hb_); have HB_ := kp (HB.out.grow' hb_); have HPB_ := kp (HPB.out.grow hb_)
 clear HX HI HB HPB HU HS3 hb_
 have HX := HX_; have HI := HI_; have HB := HB_; have HPB := HPB_; have HS3 := HS3_
 have HPEN := kp (kz_pen HP.out HU_.out HZ4.out)
 clear HX_ HI_ HB_ HPB_ HS3_ HU_ HP
 obtain ⟨Z, hZ⟩ : ∃ q, q = w6.heap.size := ⟨_, rfl⟩
 have HZZ := kp hZ
 have HZG := kp (show gp < Z by have := HPB.out.lt; omega)
 rw [← hZ] at HPEN
 have HK := kp (show Kept (Kz gp Z) w6 w6 from Kept.refl _ _)
 have HXK := kp (show ∀ w', Kept (Kz gp Z) w6 w' → At w' w.heap.size 35 137 xv from fun w' h => kz_at HX.out h (by have h1 := HG1.out; have h2 := HZG.out; omega) (by have h1 := HG1.out; omega))
 have HBK := kp (show ∀ w', Kept (Kz gp Z) w6 w' → Below w.heap.size w w' from fun w' h => HB.out.trans ((kz_low h (Nat.le_of_lt HZG.out)).mono (Nat.le_of_lt HG1.out)))
 have HS3K := kp (show ∀ w', Kept (Kz gp Z) w6 w' → Sl w' w'.heap.size 1 A3 ne (eb.map B) from fun w' h => kz_sl HS3.out HPB.out h (by omega))
 have HS4K := kp (show ∀ w', Kept (Kz gp Z) w6 w' → Sl w' w'.heap.size 1 A4 nh (hb.map B) from fun w' h => kz_sl HS4.out HPB.out h (by omega))
 have HIK := kp (show ∀ (w' : World) (k : Nat), Kept (Kz gp Z) w6 w' → k < n2 → ∃ b off d, A2 = some ⟨b, off, none⟩ ∧ ps[k]? = some d ∧ d.length = 32 ∧ ∀ j u, (d.map B)[j]? = some u → w'.cell? ⟨b, off + k * 32 + j, none⟩ = some u from fun w' k h hk => by
  obtain ⟨b, off, d, h1, h2, h3, h4, h5⟩ := HI.out.key hk
  refine ⟨b, off, d, h1, h2, h3, fun j u hu => ?_⟩
  have h6 := h5 j u hu
  by_cases e : b = gp
  ·subst e
   exfalso
   have h7 : 0 < (d.map B).length := by rw [List.length_map, h3]; omega
   have h8 := h5 0 _ (List.getElem?_eq_getElem h7)
   rw [HPB.out.cell, List.getElem_map] at h8
   cases hq : off + k * 32 + 0 with
   | zero => rw [hq] at h8; simp [B] at h8
   | succ o => rw [hq] at h8; simp at h8
  ·exact (World.cell?_of_block (a := ⟨b, off + k * 32 + j, none⟩) (h.block b ⟨by omega, e⟩)).trans h6)
 clear hZ HX HI HB HPB HS3 HS4 HZ4
 rename_i w5_
 have c37 := (HXK.out _ HK.out).blk.at_ IA.out.2.2.2.1
 go_wp2_with fail
 refine (ptextk_any gp (Kz gp Z) [] _ HPEN.out HNE.out.symm (fun w' h => HS3K.out w' (HK.out.trans h)) (by have := LEB.out; simp only [List.length_nil]; omega)).mono ?_
 rintro e w_ ⟨rfl, hp_, hk_⟩
 replace HPEN := kp (show PenAt w_ (Kz gp Z) gp (numB ne ++ eb) from hp_)
 replace HK := kp (HK.out.trans hk_)
 clear hp_ hk_ c37 HS3K
 have c37 := (HXK.out _ HK.out).blk.at_ IA.out.2.2.2.1
 have q1 := conv_u64' (n := n2) (by omega)
 go_wp2_with fail
 refine (num_any gp n2 (Kz gp Z) (numB ne ++ eb) _ HPEN.out (by clear q1; rw [List.length_append, ← HNE.out]; have h1 := LNE.out; have h2 := LEB.out; omega) (by clear q1; omega)).mono ?_
 rintro e w2_ ⟨rfl, hp_, hk_⟩
 have HK_ := kp (HK.out.trans hk_)
 obtain ⟨pre, hpre⟩ : ∃ v, v = numB ne ++ eb ++ numB n2 := ⟨_, rfl⟩
 have HPRE := kp hpre
 have HPL := kp (show pre.length ≤ 100 by rw [hpre, List.length_append, List.length_append, ← HNE.out]; have h1 := LNE.out; have h2 := LEB.out; have h3 := LN9.out; omega)
 rw [← hpre] at hp_
 have HPEN_ := kp hp_
 clear hp_ hk_ HPEN HK c37 q1 hpre
 have HPEN := HPEN_; have HK := HK_
 clear HPEN_ HK_
 try clear w_
 rename World => w_
 have c37 := (HXK.out _ HK.out).blk.at_ IA.out.2.2.2.1
 go_wp2_with fail
 go_loopw [32] (fun iv wr => ∃ k : Nat, k ≤ n2 ∧ iv = .int .i64 k ∧ Hid (PenAt wr (Kz gp Z) gp (pre ++ (ps.take k).flatten)) ∧ Hid (Kept (Kz gp Z) w6 wr)) (fun iv _ => n2 - (intOf iv).toNat)
 case atStart => exact ⟨0, by omega, rfl, kp (by simpa using HPEN.out), HK⟩
 case round =>
  obtain ⟨k, hk, rfl, hP, hK⟩ := hrel
  clear HPEN HK c37
  have HPEN := kp hP.out; have HK := kp hK.out
  clear hP hK
  rename World => w_
  by_cases hlt : k < n2
  ·obtain ⟨b, off, d, rfl, hd, hd32, hcell⟩ := HIK.out _ k HK.out hlt
   have HSN := kp (flat_take hd)
   have HC := kp hcell
   have HDG := kp (dig_map hd32)
   obtain ⟨dv, hdv⟩ : ∃ v, v = d.map B := ⟨_, rfl⟩
   rw [← hdv] at HC HDG
   obtain ⟨xs, hxs⟩ : ∃ v, v = pre ++ (ps.take k).flatten := ⟨_, rfl⟩
   have HXS := kp hxs
   have hxl : xs.length ≤ 40000 := by rw [hxs, List.length_append]; have h1 := HPL.out; have h2 := HFL.out k; omega
   rw [← hxs] at HPEN
   clear hd hd32 hcell hdv hxs
   go_wp2_with (first | (with_reducible refine wpl_loadm (o := ⟨some 35, _, _, _, _, _⟩) rfl rfl row_id HC.out rfl HDG.out.len ?_) | (with_reducible refine wpl_alloc (o := ⟨some 9, _, _, _, _, _⟩) rfl rfl zero_id ?_))
   intro w1_ hb1_ hbw1_ hsz1_
   have HB1_ := kp (at_mk hb1_ len_id); have HBW1_ := kp hbw1_; have HZ1_ := kp hsz1_
   clear hb1_ hbw1_ hsz1_
   go_wp2_with (first | (with_reducible refine wpl_storeb (o := ⟨none, .store _ _ _, _, _, _, _⟩) rfl rfl row_id HB1_.out.blk rfl rfl HB1_.out.len HDG.out.len HDG.out.one ?_))
   intro w2_ hb2_ hg2_ hsz2_
   have hgr_ := var_grow HBW1_.out HZ1_.out hg2_
   have HV := kp (at_mk hb2_ HDG.out.len)
   have HPEN_ := kp (HPEN.out.grow hgr_)
   have HZW := kp (show Z ≤ w_.heap.size by have := HK.out.size; have := HZZ.out; omega)
   have HK_ := kp (HK.out.trans (Kept.of_grow hgr_ (fun j hj => Nat.lt_of_lt_of_le hj.1 HZW.out)))
   clear hb2_ hg2_ hsz2_ hgr_ HB1_ HBW1_ HZ1_ HPEN HK HC HZW
   have HPEN := HPEN_; have HK := HK_
   clear HPEN_ HK_
   go_wp2_with (first | (with_reducible refine wpl_loadb (o := ⟨some 36, _, _, _, _, _⟩) rfl rfl row_id HV.out.blk rfl HV.out.len ?_))
   refine (pid_any gp (Kz gp Z) xs HDG.out _ HPEN.out (by omega)).mono ?_
   rintro e w3_ ⟨rfl, hp_, hk_⟩
   have HPN := kp (show PenAt w3_ (Kz gp Z) gp (pre ++ (ps.take (k + 1)).flatten) by rw [HSN.out, ← List.append_assoc, ← HXS.out]; exact hp_)
   have HK_ := kp (HK.out.trans hk_)
   clear hp_ hk_ HPEN HK HV
   go_wp2_with fail
   go_roundw
   case rel => exact ⟨k + 1, by omega, by go_num, HPN, HK_⟩
   case measure => simp [intOf]; omega
  ·obtain rfl : k = n2 := by omega
   have HPEN_ := kp (show PenAt w_ (Kz gp Z) gp (pre ++ ps.flatten) by have h := HPEN.out; rw [List.take_of_length_le (by rw [HNL.out]; exact Nat.le_refl _)] at h; exact h)
   have HFN := kp (show ps.flatten.length ≤ k * 32 by have h := HFL.out k; rw [List.take_of_length_le (by rw [HNL.out]; exact Nat.le_refl _)] at h; exact h)
   obtain ⟨xs, hxs⟩ : ∃ v, v = pre ++ ps.flatten := ⟨_, rfl⟩
   have HXS := kp hxs
   have hxl : xs.length ≤ 40000 := by rw [hxs, List.length_append]; have h1 := HPL.out; have h2 := HFN.out; omega
   rw [← hxs] at HPEN_
   clear HPEN hxs
   have HPEN := HPEN_
   clear HPEN_
   go_wp2_with fail
   refine (ptextk_any gp (Kz gp Z) xs _ HPEN.out HNH.out.symm (fun w' h => HS4K.out w' (HK.out.trans h)) (by have := LHB.out; omega)).mono ?_
   rintro e w2_ ⟨rfl, hp_, hk_⟩
   have HPEN_ := kp hp_
   have HK_ := kp (HK.out.trans hk_)
   clear hp_ hk_ HPEN HK HS4K
   have HPEN := HPEN_; have HK := HK_
   clear HPEN_ HK_
   try clear w_
   rename World => w_
   have FMT := kp (MT.out _ _ _ (HXK.out _ HK.out).blk)
   have HZL := kp (show (xs ++ (numB nh ++ hb)).length ≤ 50000 by rw [List.length_append, List.length_append, ← HNH.out]; have h1 := LNH.out; have h2 := LHB.out; omega)
   go_wp2_with (first | (with_reducible refine wpl_loadm (o := ⟨some 42, _, _, _, _, _⟩) rfl rfl row_aid FMT.out rfl DT.out.len ?_))
   refine (pid_any gp (Kz gp Z) (xs ++ (numB nh ++ hb)) DT.out _ HPEN.out (by have := HZL.out; omega)).mono ?_
   rintro e w2_ ⟨rfl, hp_, hk_⟩
   have HEQ := kp (show xs ++ (numB nh ++ hb) ++ tg = out by rw [HPUT.out, HXS.out, HPRE.out]; simp only [List.append_assoc])
   rw [HEQ.out] at hp_
   have HOL := kp (show out.length ≤ 60000 by rw [← HEQ.out, List.length_append, DT.out.2]; have := HZL.out; omega)
   have HPEN_ := kp hp_
   have HK_ := kp (HK.out.trans hk_)
   clear hp_ hk_ HPEN HK FMT
   have HPEN := HPEN_; have HK := HK_
   clear HPEN_ HK_
   try clear w_
   rename World => w_
   go_wp2_with fail
   refine (pbytes_any gp (Kz gp Z) out _ HPEN.out (by have := HOL.out; omega)).mono ?_
   rintro e w2_ ⟨A6, c6, rfl, ho6, hc6, hb_⟩
   have HX6 := kp (own_lower ho6 (HBK.out _ HK.out).size)
   have HC6 := kp hc6
   have HB6 := kp ((HBK.out _ HK.out).grow' hb_)
   clear ho6 hc6 hb_
   go_wp2_with fail
   go_ret
   exact ⟨A6, c6, rfl, HX6.out, HC6.out, HB6.out⟩
def lookH (l : List UInt8) : Rd Hdr := match numR 63 l with
 | .error x => .error x
 | .ok (s, l1) => match numR 1099511627776 l1 with
  | .error x => .error x
  | .ok (h, l2) => match numR 1099511627776 l2 with
   | .error x => .error x
   | .ok (ep, l3) => match takeR 32 l3 with
    | .error x => .error x
    | .ok (p, l4) => match takeR 32 l4 with
     | .error x => .error x
     | .ok (r, l5) => .ok (⟨(s : Int), (h : Int), (ep : Int), p, r⟩, l5)
def readH (l : List UInt8) : Except Nat Hdr := match lookH l with
 | .error x => .error x
 | .ok (h, l5) => if l5 = [] ∧ h.height ≠ 0 then .ok h else .error 3
def lookE (l : List UInt8) : Rd Ent := match numR 3 l with
 | .error x => .error x
 | .ok (k, l1) => match numR 63 l1 with
  | .error x => .error x
  | .ok (s, l2) => match takeR 32 l2 with
   | .error x => .error x
   | .ok (t, l3) => match numR 4611686018427387904 l3 with
    | .error x => .error x
    | .ok (a, l4) => match numR 63 l4 with
     | .error x => .error x
     | .ok (y, l5) => match numR 1099511627776 l5 with
      | .error x => .error x
      | .ok (ep, l6) => .ok (⟨(k : Int), (s : Int), t, (a : Int), (y : Int), (ep : Int)⟩, l6)
def readE (l : List UInt8) : Except Nat Ent := match lookE l with
 | .error x => .error x
 | .ok (e, l5) => if l5 = [] ∧ e.kind ≠ 0 then .ok e else .error 3
def errOf {α : Type} : Except Nat α → Nat
 | .error x => x
 | .ok _ => 0
def hdrOf : Except Nat Hdr → Hdr
 | .error _ => noHdr
 | .ok h => h
def entOf : Except Nat Ent → Ent
 | .error _ => noEnt
 | .ok h => h
theorem lookH_ok {l t : List UInt8} {h : Hdr} (e : lookH l = .ok (h, t)) : h.ok ∧ (0 ≤ h.shard ∧ h.shard ≤ 63) ∧ (0 ≤ h.height ∧ h.height ≤ 1099511627776) ∧ (0 ≤ h.epoch ∧ h.epoch ≤ 1099511627776) ∧ t.length ≤ l.length := by
 unfold lookH at e
 cases h1 : numR 63 l with
 | error x => rw [h1] at e; simp at e
 | ok p =>
  obtain ⟨s, l1⟩ := p
  rw [h1] at e
  simp only at e
  cases h2 : numR 1099511627776 l1 with
  | error x => rw [h2] at e; simp at e
  | ok p =>
   obtain ⟨h, l2⟩ := p
   rw [h2] at e
   simp only at e
   cases h3 : numR 1099511627776 l2 with
   | error x => rw [h3] at e; simp at e
   | ok p =>
    obtain ⟨ep, l3⟩ := p
    rw [h3] at e
    simp only at e
    cases h4 : takeR 32 l3 with
    | error x => rw [h4] at e; simp at e
    | ok p =>
     obtain ⟨p, l4⟩ := p
     rw [h4] at e
     simp only at e
     cases h5 : takeR 32 l4 with
     | error x => rw [h5] at e; simp at e
     | ok p =>
      obtain ⟨r, l5⟩ := p
      rw [h5] at e
      simp only at e
      injection e with e; injection e with e1 e2
      subst e1; subst e2
      have q1 := numR_le h1; have q2 := numR_le h2; have q3 := numR_le h3; have q4 := takeR_le h4; have q5 := takeR_le h5
      refine ⟨⟨⟨?_, ?_⟩, ⟨?_, ?_⟩, ⟨?_, ?_⟩, q4.1, q5.1⟩, ⟨?_, ?_⟩, ⟨?_, ?_⟩, ⟨?_, ?_⟩, ?_⟩ <;> (try simp only) <;> omega
theorem readH_right {l : List UInt8} {h : Hdr} (e : readH l = .ok h) : h.ok ∧ rightH h = true := by
 unfold readH at e
 split at e
 ·cases e
 ·rename_i h1
  split at e
  ·rename_i h2
   injection e with e
   subst e
   obtain ⟨hk, q1, q2, q3, _⟩ := lookH_ok h1
   exact ⟨hk, rightH_iff.2 ⟨q1, ⟨by omega, q2.2⟩, q3⟩⟩
  ·cases e
theorem hdrOf_ok (l : List UInt8) : (hdrOf (readH l)).ok := by
 cases e : readH l with
 | error x => exact noHdr_ok
 | ok h => exact (readH_right e).1
theorem lookE_ok {l t : List UInt8} {h : Ent} (e : lookE l = .ok (h, t)) : h.ok ∧ (0 ≤ h.kind ∧ h.kind ≤ 3) ∧ (0 ≤ h.shard ∧ h.shard ≤ 63) ∧ h.amount ≤ 4611686018427387904 ∧ (0 ≤ h.why ∧ h.why ≤ 63) ∧ (0 ≤ h.epoch ∧ h.epoch ≤ 1099511627776) ∧ t.length ≤ l.length := by
 unfold lookE at e
 cases h1 : numR 3 l with
 | error x => rw [h1] at e; simp at e
 | ok p =>
  obtain ⟨k, l1⟩ := p
  rw [h1] at e
  simp only at e
  cases h2 : numR 63 l1 with
  | error x => rw [h2] at e; simp at e
  | ok p =>
   obtain ⟨s, l2⟩ := p
   rw [h2] at e
   simp only at e
   cases h3 : takeR 32 l2 with
   | error x => rw [h3] at e; simp at e
   | ok p =>
    obtain ⟨tx, l3⟩ := p
    rw [h3] at e
    simp only at e
    cases h4 : numR 4611686018427387904 l3 with
    | error x => rw [h4] at e; simp at e
    | ok p =>
     obtain ⟨a, l4⟩ := p
     rw [h4] at e
     simp only at e
     cases h5 : numR 63 l4 with
     | error x => rw [h5] at e; simp at e
     | ok p =>
      obtain ⟨y, l5⟩ := p
      rw [h5] at e
      simp only at e
      cases h6 : numR 1099511627776 l5 with
      | error x => rw [h6] at e; simp at e
      | ok p =>
       obtain ⟨ep, l6⟩ := p
       rw [h6] at e
       simp only at e
       injection e with e; injection e with e1 e2
       subst e1; subst e2
       have q1 := numR_le h1; have q2 := numR_le h2; have q3 := takeR_le h3; have q4 := numR_le h4; have q5 := numR_le h5; have q6 := numR_le h6
       refine ⟨⟨⟨?_, ?_⟩, ⟨?_, ?_⟩, q3.1, ⟨?_, ?_⟩, ⟨?_, ?_⟩, ⟨?_, ?_⟩⟩, ⟨?_, ?_⟩, ⟨?_, ?_⟩, ?_, ⟨?_, ?_⟩, ⟨?_, ?_⟩, ?_⟩ <;> (try simp only) <;> omega
theorem readE_right {l : List UInt8} {h : Ent} (e : readE l = .ok h) : h.ok ∧ rightE h = true := by
 unfold readE at e
 split at e
 ·cases e
 ·rename_i h1
  split at e
  ·rename_i h2
   injection e with e
   subst e
   obtain ⟨hk, q1, q2, q3, q4, q5, _⟩ := lookE_ok h1
   exact ⟨hk, rightE_iff.2 ⟨⟨by omega, q1.2⟩, q2, q3, q4, q5⟩⟩
  ·cases e
theorem entOf_ok (l : List UInt8) : (entOf (readE l)).ok := by
 cases e : readE l with
 | error x => exact noEnt_ok
 | ok h => exact (readE_right e).1
open Go.RowKit
structure Raw where
 eb : List UInt8
 path : List (List UInt8)
 hb : List UInt8
 tag : List UInt8
def idsR : Nat → List UInt8 → Rd (List (List UInt8))
 | 0, l => .ok ([], l)
 | n + 1, l => match idsR n l with
  | .error x => .error x
  | .ok (ds, l1) => match takeR 32 l1 with
   | .error x => .error x
   | .ok (d, l2) => .ok (ds ++ [d], l2)
theorem idsR_ok : ∀ (n : Nat) (l t : List UInt8) (ds : List (List UInt8)), idsR n l = .ok (ds, t) → ds.length = n ∧ (∀ d ∈ ds, d.length = 32) ∧ t.length ≤ l.length
 | 0, l, t, ds, h => by
  unfold idsR at h
  injection h with h; injection h with e1 e2
  subst e1; subst e2
  exact ⟨rfl, by simp, Nat.le_refl _⟩
 | n + 1, l, t, ds, h => by
  unfold idsR at h
  split at h
  ·cases h
  ·rename_i ds1 l1 h1
   split at h
   ·cases h
   ·rename_i d l2 h2
    injection h with h; injection h with e1 e2
    subst e1; subst e2
    obtain ⟨k1, k2, k3⟩ := idsR_ok n _ _ _ h1
    have k4 := takeR_le h2
    refine ⟨by simp [k1], fun x hx => ?_, by omega⟩
    rcases List.mem_append.1 hx with hx | hx
    ·exact k2 x hx
    ·rw [List.mem_singleton.1 hx]; exact k4.1
theorem idsR_err {l : List UInt8} {x k : Nat} (h : idsR k l = .error x) : ∀ d, idsR (k + d) l = .error x
 | 0 => h
 | d + 1 => by rw [← Nat.add_assoc, idsR, idsR_err h d]
def lookC (l : List UInt8) : Rd Raw := match textR 100 l with
 | .error x => .error x
 | .ok (eb, l1) => match numR 32 l1 with
  | .error x => .error x
  | .ok (n, l2) => match idsR n l2 with
   | .error x => .error x
   | .ok (p, l3) => match textR 100 l3 with
    | .error x => .error x
    | .ok (hb, l4) => match takeR 32 l4 with
     | .error x => .error x
     | .ok (t, l5) => .ok (⟨eb, p, hb, t⟩, l5)
def readW (r : Raw) : Except Nat Cer := match readE r.eb with
 | .error x => .error x
 | .ok e => match readH r.hb with
  | .error x => .error x
  | .ok h => .ok ⟨e, r.path, h, r.tag⟩
def readC (l : List UInt8) : Except Nat Cer := match lookC l with
 | .error x => .error x
 | .ok (r, l5) => if l5 ≠ [] then .error 3 else readW r
def cerOf : Except Nat Cer → Cer
 | .error _ => noCer
 | .ok c => c
theorem lookC_ok {l t : List UInt8} {r : Raw} (h : lookC l = .ok (r, t)) : r.eb.length ≤ 100 ∧ r.hb.length ≤ 100 ∧ r.path.length ≤ 32 ∧ (∀ d ∈ r.path, d.length = 32) ∧ r.tag.length = 32 := by
 unfold lookC at h
 split at h
 ·cases h
 ·rename_i eb l1 h1
  split at h
  ·cases h
  ·rename_i n l2 h2
   split at h
   ·cases h
   ·rename_i p l3 h3
    split at h
    ·cases h
    ·rename_i hb l4 h4
     split at h
     ·cases h
     ·rename_i t' l5 h5
      injection h with h; injection h with e1 e2
      subst e1
      have k1 := textR_le h1; have k2 := numR_le h2; have k3 := idsR_ok _ _ _ _ h3; have k4 := textR_le h4; have k5 := takeR_le h5
      exact ⟨k1.1, k4.1, by simp only; omega, k3.2.1, k5.1⟩
theorem readW_right {r : Raw} {c : Cer} (hr : r.path.length ≤ 32 ∧ (∀ d ∈ r.path, d.length = 32) ∧ r.tag.length = 32) (h : readW r = .ok c) : c.ok ∧ rightE c.e = true ∧ rightH c.h = true ∧ c.path.length ≤ 32 := by
 unfold readW at h
 split at h
 ·cases h
 ·rename_i e h1
  split at h
  ·cases h
  ·rename_i hh h2
   injection h with h
   subst h
   have k1 := readE_right h1; have k2 := readH_right h2
   exact ⟨⟨k1.1, hr.2.1, k2.1, hr.2.2⟩, k1.2, k2.2, hr.1⟩
theorem readC_right {l : List UInt8} {c : Cer} (h : readC l = .ok c) : c.ok ∧ rightE c.e = true ∧ rightH c.h = true ∧ c.path.length ≤ 32 := by
 unfold readC at h
 split at h
 ·cases h
 ·rename_i r l5 h1
  split at h
  ·cases h
  ·have k := lookC_ok h1
   exact readW_right ⟨k.2.2.1, k.2.2.2.1, k.2.2.2.2⟩ h
theorem cerOf_ok (l : List UInt8) : (cerOf (readC l)).ok := by
 cases h : readC l with
 | error x => exact noCer_ok
 | ok c => exact (readC_right h).1
theorem cerOf_path (l : List UInt8) : (cerOf (readC l)).path.length ≤ 32 := by
 cases h : readC l with
 | error x => simp [cerOf, noCer]
 | ok c => exact (readC_right h).2.2.2
end Go.Proofs.YtphmefhnffoafaaGreatDoor

/- The example of seisinlaw11, and what is looked at. -/
import Derived.Test.YtphmefhnffoafaaDoorCertFormsT27
import Derived.Test.YtphmefhnffoafaaDoorCertFormsT18
set_option linter.unusedSimpArgs false
/- The example of seisinlaw11, and what is looked at. -/
namespace Go.Proofs.YtphmefhnffoafaaDoor
open Go.RowKit Go.Shelf
set_option linter.unusedVariables false
def Up (w0 w : World) : Prop := Grow w0 w
theorem Up.grow {w0 w w' : World} (h : Up w0 w) (k : Grow w w') : Up w0 w' := Below.grow' h k
theorem zero_entry : (Tryd.prog.info? 29).map (·.zero) = some (some (.agg (entV noEnt).toArray)) := by kernel_rfl
theorem len_entry : (entV noEnt).length = 37 := entV_length noEnt_ok
theorem ent_cl {x : Ent} (hx : x.ok) : Cl 37 (entV x) := ⟨entV_length hx, fun u hu => cert_one (.slice none 0 0) rfl ⟨x, [], noHdr, zeroD⟩ u (by simp [certV, hu])⟩
theorem hdr_cl {x : Hdr} (hx : x.ok) : Cl 67 (hdrV x) := ⟨hdrV_length hx, hdr_one x⟩
theorem cgreat_any {A2 : Option Addr} {n2 c2 : Nat} {x : Cer} {res : Bool} (hres : decide (40 < n2) = res) (w : World) (hx : x.ok) :
    Calls Tryd.prog 52 #[.agg (certV (.slice A2 n2 c2) x).toArray] w fun e w' => e = .returned (.bool res) ∧ Below w.heap.size w w' := by
  have HB := Lib.hid (Below.refl w.heap.size w)
  have HRES := Lib.hid (show decide (40 < (n2 : Int)) = res by rw [← hres]; exact decide_eq_decide.2 (by omega))
  have HD := Lib.hid (cert_cl (v := .slice A2 n2 c2) rfl hx)
  have IA := Lib.hid (cert_ats (v := .slice A2 n2 c2) hx)
  obtain ⟨xv, hxv⟩ : ∃ v, v = certV (.slice A2 n2 c2) x := ⟨_, rfl⟩
  rw [← hxv] at HD IA ⊢
  clear hres hx hxv
  go_enter Tryd.func52, Tryd.ntmps52
  go_wp2_with (first | (with_reducible refine wpl_box (o := ⟨some 1, _, _, _, _, _⟩) rfl rfl rfl ?_))
  intro w2_ hb2_ hb_ hsz2_
  have HX_ := Lib.hid (at_mk hb2_ HD.out.len)
  clear hb2_ hsz2_
  have HB_ := Lib.hid (HB.out.grow' hb_)
  clear HB
  have HB := HB_
  clear HB_
  have HX := HX_
  clear hb_ HX_
  try clear w_
  rename World => w_
  have cp := HX.out.blk.at_ IA.out.2.2.2.1
  have hr := HRES.out
  go_wp2_with fail
  go_ret
  exact ⟨by first | rfl | (rw [hr]; rfl) | (go_simp; rfl), HB.out⟩
/-- A made certificate is right: of the first block of a shard. -/
theorem mk_first {seed cmd : List UInt8} {N : Nat} {e o : Ent} {i : Int} (ho : okL e i = true) (hr : rightH (nextH noHdr true (leavesB cmd e i) e.shard e.epoch) = true) :
    mkOK seed N (leavesB cmd e i) e (nextH noHdr true (leavesB cmd e i) e.shard e.epoch) = decide (e.shard < N) := by
  have hls := leavesB_yes (c := cmd) ho
  have hre : rightE e = true := by unfold okL at ho; simp only [Bool.and_eq_true] at ho; exact ho.1
  have hsh : (nextH noHdr true (leavesB cmd e i) e.shard e.epoch).shard = e.shard := rfl
  have hep : (nextH noHdr true (leavesB cmd e i) e.shard e.epoch).epoch = e.epoch := rfl
  have hrt : (nextH noHdr true (leavesB cmd e i) e.shard e.epoch).root = rootB (leavesB cmd e i) := rfl
  generalize hh : nextH noHdr true (leavesB cmd e i) e.shard e.epoch = h at *
  have h0 : 0 ≤ e.shard := by have := rightE_iff.1 hre; omega
  have hm : midC (mkC seed N (leavesB cmd e i) e h) = true := by
    unfold midC mkC; simp only; rw [hre, hr, hsh, hep]; simp
  have ht : treeC (mkC seed N (leavesB cmd e i) e h) = true := by
    unfold treeC mkC; simp only [decide_eq_true_eq]
    rw [hrt]
    have hp := climbT_path (l := leavesB cmd e i) (i := 1) (x := putEB e) (by rw [hls]; rfl) (by rw [hls]; simp)
    rw [hls] at hp ⊢
    exact hp
  unfold mkOK isC
  rw [hr, hm, ht]
  simp only [Bool.true_and]
  unfold tagC mkC
  simp only
  rw [hsh]
  by_cases hlt : e.shard < N
  · rw [if_pos ⟨h0, hlt⟩]; simp [hlt]
  · simp [hlt]
theorem cert_set {v : Value} {c : Cer} (h : c.ok) {j : Nat} {y : UInt8} : (certV v c).set (105 + j) (B y) = certV v { c with tag := c.tag.set j y } := by
  have e : certV v c = (entV c.e ++ v :: hdrV c.h) ++ c.tag.map B := by simp [certV]
  have e2 : certV v { c with tag := c.tag.set j y } = (entV c.e ++ v :: hdrV c.h) ++ (c.tag.set j y).map B := by simp [certV]
  have hl : (entV c.e ++ v :: hdrV c.h).length = 105 := by rw [List.length_append, entV_length h.1, List.length_cons, hdrV_length h.2.2.1]
  rw [e, e2, List.set_append_right _ _ (by omega), hl, Nat.add_sub_cancel_left, List.map_set]
theorem isC_turned {seed : List UInt8} {N : Nat} {c : Cer} {t : List UInt8} (h : isC seed N c = true) (hne : t ≠ c.tag) : isC seed N { c with tag := t } = false := by
  unfold isC at h ⊢
  simp only [Bool.and_eq_true] at h
  have h2 := h.2
  unfold tagC at h2 ⊢
  simp only [Bool.and_eq_true, decide_eq_true_eq] at h2
  rw [Bool.and_eq_false_iff]; right
  rw [Bool.and_eq_false_iff]; right
  simp only [decide_eq_false_iff_not]
  rw [h2.2]; exact fun k => hne k.symm
theorem xor1_ne (x : UInt8) : x ^^^ 1 ≠ x := by
  intro h
  have h2 : x ^^^ (x ^^^ 1) = x ^^^ x := by rw [h]
  rw [← UInt8.xor_assoc, UInt8.xor_self, UInt8.zero_xor] at h2
  exact absurd h2 (by decide)
def ent11 : Ent := ⟨1, 1, zeroD, 7, 0, 0⟩
theorem ent11_ok : ent11.ok := by simp [ent11, Ent.ok, I64, U64, zeroD]
theorem bt_ent11 : Tryd.prog.built 29 [(0, .int .i64 1), (1, .int .i64 1), (3, .int .u64 7)] = some (entV ent11).toArray := by kernel_rfl
theorem okL_11 : okL ent11 9 = true := by decide
attribute [local go_sem high] xor_b
set_option maxRecDepth 100000 in
set_option maxHeartbeats 4000000 in
theorem awake11_any (w : World) (ht : Tabs w) : Calls Tryd.prog 45 #[] w fun e w' => e = .returned (.bool true) ∧ Below w.heap.size w w' := by
  have HT := Lib.hid ht
  have BE := Lib.hid bt_ent11
  have B0 := Lib.hid built_hdrE
  have LE := Lib.hid (fun A n c w hs hc hn => leaves_any A n c [1] ent11 9 w hs hc hn ent11_ok (show U64 9 by simp [U64]))
  rw [okL_11] at LE
  have hrt0 : rightH (nextH noHdr true (leavesB [1] ent11 9) ent11.shard ent11.epoch) = true := by unfold nextH; rfl
  have hmk := mk_first (seed := [3]) (cmd := [1]) (N := 2) (o := ent11) okL_11 hrt0
  rw [show decide (ent11.shard < ((2 : Nat) : Int)) = true from rfl] at hmk
  obtain ⟨ls, hls⟩ : ∃ ls, ls = leavesB [1] ent11 9 := ⟨_, rfl⟩
  have HL3 := Lib.hid (show ls.length = 3 by rw [hls, leavesB_yes okL_11]; rfl)
  have HLM := Lib.hid (show ∀ l ∈ ls, l.length ≤ 1000000 by
    intro l hl
    rw [hls, leavesB_yes okL_11] at hl
    have h1 := putEB_len ent11_ok (by decide)
    have h2 := numB_le (n := 9) (by omega)
    simp only [List.mem_cons, List.not_mem_nil, or_false] at hl
    rcases hl with rfl | rfl | rfl
    · simp
    · omega
    · show (numB 9).length ≤ _; omega)
  rw [← hls] at LE hmk
  clear hls hrt0
  have HOK := Lib.hid (show nextOK noHdr true ls 1 0 = true by unfold nextOK nextH; rw [HL3.out]; rfl)
  have NX := Lib.hid (fun A c w hl ht => next_any noHdr true A 3 c ls 1 0 w noHdr_ok hl HL3.out.symm (by omega) HLM.out (show I64 1 by simp [I64]) (show I64 0 by simp [I64]) ht)
  have HNB := nextB_yes HOK.out
  rw [HNB, HOK.out] at NX
  clear HNB
  have HNO : (nextH noHdr true ls 1 0).ok := ⟨by simp [I64, nextH], by simp [I64, nextH], by simp [I64, nextH], by simp [nextH, zeroD], rootB_len ls⟩
  rw [show nextH noHdr true ls ent11.shard ent11.epoch = nextH noHdr true ls 1 0 from rfl] at hmk
  have HMC := mkC_ok (seed := [3]) (N := 2) (ls := ls) ent11_ok HNO
  have HIS : isC [3] 2 (mkC [3] 2 ls ent11 (nextH noHdr true ls 1 0)) = true := by unfold mkOK at hmk; simp only [Bool.and_eq_true] at hmk; exact hmk.2
  have MK := Lib.hid (fun g A c A2 c2 w hr hl ht => cmake_any (seed := [3]) (g := g) (A := A) (N := 2) (c := c) (A2 := A2) (n2 := 3) (c2 := c2) (ls := ls) hmk (show mkR [3] 2 ls ent11 (nextH noHdr true ls 1 0) = mkC [3] 2 ls ent11 (nextH noHdr true ls 1 0) by unfold mkR; rw [if_pos hmk]) w hr (by omega) ent11_ok HNO hl HL3.out.symm (by omega) HLM.out ht)
  have HHD := Lib.hid (hdr_cl HNO)
  have HED := Lib.hid (ent_cl ent11_ok)
  have Z1 := Lib.hid (hdrV_length noHdr_ok)
  obtain ⟨y, hy⟩ : ∃ y, y = mkC [3] 2 ls ent11 (nextH noHdr true ls 1 0) := ⟨_, rfl⟩
  rw [← hy] at MK HMC HIS
  obtain ⟨hv, hhv⟩ : ∃ v, v = hdrV (nextH noHdr true ls 1 0) := ⟨_, rfl⟩
  rw [← hhv] at NX HHD MK
  obtain ⟨nz, hnz⟩ : ∃ v, v = hdrV noHdr := ⟨_, rfl⟩
  rw [← hnz] at NX B0
  obtain ⟨ev, hev⟩ : ∃ v, v = entV ent11 := ⟨_, rfl⟩
  rw [← hev] at BE LE HED MK
  clear hy hhv hnz hev ht hmk HNO
  obtain ⟨b5, hb5⟩ : ∃ b, y.tag[5]? = some b := ⟨_, List.getElem?_eq_getElem (by rw [HMC.2.2.2]; omega)⟩
  have HTN : y.tag.set 5 (b5 ^^^ 1) ≠ y.tag := by
    intro h
    have h1 : (y.tag.set 5 (b5 ^^^ 1))[5]? = y.tag[5]? := by rw [h]
    rw [List.getElem?_set_self (by rw [HMC.2.2.2]; omega), hb5] at h1
    exact xor1_ne b5 (Option.some.inj h1)
  have HOK2 : ({ y with tag := y.tag.set 5 (b5 ^^^ 1) } : Cer).ok := ⟨HMC.1, HMC.2.1, HMC.2.2.1, by show (y.tag.set 5 (b5 ^^^ 1)).length = 32; rw [List.length_set]; exact HMC.2.2.2⟩
  have I1 := Lib.hid (fun g A c A2 n2 c2 w hr hn hi ht => cis_any (seed := [3]) (g := g) (A := A) (N := 2) (c := c) (A2 := A2) (n2 := n2) (c2 := c2) HIS w hr (by omega) HMC hn hi ht)
  have I2 := Lib.hid (fun A2 n2 c2 w => cis_nil (A2 := A2) (n2 := n2) (c2 := c2) w HMC)
  have I3 := Lib.hid (fun g A c A2 n2 c2 w hr hn hi ht => cis_any (seed := [3]) (g := g) (A := A) (N := 2) (c := c) (A2 := A2) (n2 := n2) (c2 := c2) (isC_turned HIS HTN) w hr (by omega) HOK2 hn hi ht)
  have CL := Lib.hid (fun (A : Option Addr) (n c : Nat) => cert_cl (v := .slice A n c) rfl HMC)
  have C5 := Lib.hid (fun (A : Option Addr) (n c : Nat) => cert_t (v := .slice A n c) HMC (j := 5) (u := B b5) (by rw [List.getElem?_map, hb5]; rfl))
  have CS := Lib.hid (fun (A : Option Addr) (n c : Nat) => cert_set (v := .slice A n c) HMC (j := 5) (y := b5 ^^^ 1))
  clear hb5 HTN HMC HIS HOK2
  have HB := Lib.hid (Below.refl w.heap.size w)
  go_enter Tryd.func45, Tryd.ntmps45
  go_wp2_with fail
  generalize hw_ : World.alloc w _ = w2_
  obtain ⟨hX_, hb_, hs_⟩ := alloc_eq hw_
  have HLR := Lib.hid hX_
  clear hw_ hX_
  have HB_ := Lib.hid (HB.out.grow' hb_)
  clear HB
  have HB := HB_
  clear HB_
  have HT_ := Lib.hid (HT.out.grow hb_)
  clear HT
  have HT := HT_
  clear HT_
  clear hb_ hs_
  rename World => w_
  have HS := Lib.hid (show Sl w_ w_.heap.size 1 (some ⟨w.heap.size, 0, none⟩) 1 ([3].map B) from HLR.out.sl rfl)
  go_wp2_with fail
  refine (keys_yes _ 1 1 2 [3] _ HS.out (by omega) (by omega) (by omega) (by omega) HT.out).mono ?_
  rintro e w_ ⟨g, A1, c1, rfl, hr_, hb_⟩
  have HB_ := Lib.hid (HB.out.grow' hb_)
  clear HB
  have HB := HB_
  clear HB_
  have HT_ := Lib.hid (HT.out.grow hb_)
  clear HT
  have HT := HT_
  clear HT_
  clear hb_
  have HRA := Lib.hid hr_
  clear hr_ HLR HS
  go_wp2_with (first | (with_reducible refine wpl_stop (o := ⟨some 11, _, _, _, _, _⟩) ?_))
  refine stop_go ?_
  refine wpl_build rfl rfl BE.out ?_
  go_wp2_with (first | (with_reducible refine wpl_alloc (o := ⟨some 2, _, _, _, _, _⟩) rfl rfl zero_entry ?_))
  intro w1_ hb1_ hbw1_ hsz1_
  have HB1_ := Lib.hid (at_mk hb1_ len_entry)
  have HBW1_ := Lib.hid hbw1_
  have HZ1_ := Lib.hid hsz1_
  clear hb1_ hbw1_ hsz1_
  go_wp2_with (first | (with_reducible refine wpl_storeb (o := ⟨none, .store _ _ _, _, _, _, _⟩) rfl rfl row_entry HB1_.out.blk rfl rfl HB1_.out.len HED.out.len HED.out.one ?_))
  intro w2_ hb2_ hg2_ hsz2_
  have hb_ := var_grow HBW1_.out HZ1_.out hg2_
  have HX_ := Lib.hid (at_mk hb2_ HED.out.len)
  clear hb2_ hg2_ hsz2_ HB1_ HBW1_ HZ1_
  have HB_ := Lib.hid (HB.out.grow' hb_)
  clear HB
  have HB := HB_
  clear HB_
  have HRA_ := Lib.hid (HRA.out.grow hb_)
  clear HRA
  have HRA := HRA_
  clear HRA_
  have HT_ := Lib.hid (HT.out.grow hb_)
  clear HT
  have HT := HT_
  clear HT_
  generalize hg_ : w_.heap.size = ge at HX_ ⊢
  clear hg_
  have HE := HX_
  clear hb_ HX_
  clear w1_
  try clear w_
  rename World => w_
  go_wp2_with (first | (with_reducible refine wpl_stop (o := ⟨some 14, _, _, _, _, _⟩) ?_))
  refine stop_go ?_
  generalize hw1 : World.alloc w_ _ = w1_
  obtain ⟨hX, hb_, hs⟩ := alloc_eq hw1
  have HX1 := Lib.hid (show Sl w1_ w1_.heap.size 1 (some ⟨w_.heap.size, 0, none⟩) 1 (([1] : List UInt8).map B) from Blk.sl (sz := 1) (n := 1) hX rfl)
  clear hX hs hw1
  have hb_ := hb_
  clear hb_
  have HB_ := Lib.hid (HB.out.grow' hb_)
  clear HB
  have HB := HB_
  clear HB_
  have HE_ := Lib.hid (HE.out.grow hb_)
  clear HE
  have HE := HE_
  clear HE_
  have HRA_ := Lib.hid (HRA.out.grow hb_)
  clear HRA
  have HRA := HRA_
  clear HRA_
  have HT_ := Lib.hid (HT.out.grow hb_)
  clear HT
  have HT := HT_
  clear HT_
  clear hb_
  try clear w_
  rename World => w_
  go_wp2_with (first | (with_reducible refine wpl_loadb (o := ⟨_, .load _ _, _, _, _, _⟩) rfl rfl row_entry HE.out.blk rfl HE.out.len ?_) | (with_reducible refine wpl_loadw (o := ⟨_, .load _ _, _, _, _, _⟩) (by first | rfl | (go_simp; done) | fail) rfl row_entry HE.out.blk rfl HE.out.len ?_))
  refine (LE.out _ 1 1 _ HX1.out (Nat.le_refl _) (by omega)).mono ?_
  rintro e w2_ ⟨A2, n2, c2, rfl, hl2, hn2, hb_⟩
  rw [HL3.out] at hn2
  subst hn2
  have HL2 := Lib.hid hl2
  clear hl2 HX1 LE
  have hb_ := hb_
  clear hb_
  have HB_ := Lib.hid (HB.out.grow' hb_)
  clear HB
  have HB := HB_
  clear HB_
  have HE_ := Lib.hid (HE.out.grow hb_)
  clear HE
  have HE := HE_
  clear HE_
  have HRA_ := Lib.hid (HRA.out.grow hb_)
  clear HRA
  have HRA := HRA_
  clear HRA_
  have HT_ := Lib.hid (HT.out.grow hb_)
  clear HT
  have HT := HT_
  clear HT_
  clear hb_
  try clear w_
  rename World => w_
  go_wp2_with (first | (with_reducible refine wpl_stop (o := ⟨some 19, _, _, _, _, _⟩) ?_))
  refine stop_go ?_
  refine wpl_build rfl rfl B0.out ?_
  go_wp2_with fail
  refine (NX.out _ _ _ HL2.out HT.out).mono ?_
  rintro e w2_ ⟨rfl, hb_⟩
  clear NX B0
  have hb_ := hb_
  clear hb_
  have HB_ := Lib.hid (HB.out.grow' hb_)
  clear HB
  have HB := HB_
  clear HB_
  have HE_ := Lib.hid (HE.out.grow hb_)
  clear HE
  have HE := HE_
  clear HE_
  have HRA_ := Lib.hid (HRA.out.grow hb_)
  clear HRA
  have HRA := HRA_
  clear HRA_
  have HT_ := Lib.hid (HT.out.grow hb_)
  clear HT
  have HT := HT_
  clear HT_
  have HL2_ := Lib.hid (HL2.out.grow hb_)
  clear HL2
  have HL2 := HL2_
  clear HL2_
  clear hb_
  try clear w_
  rename World => w_
  go_wp2_with (first | (with_reducible refine wpl_alloc (o := ⟨some 5, _, _, _, _, _⟩) rfl rfl zero_header ?_))
  intro w1_ hb1_ hbw1_ hsz1_
  have HB1_ := Lib.hid (at_mk hb1_ len_header)
  have HBW1_ := Lib.hid hbw1_
  have HZ1_ := Lib.hid hsz1_
  clear hb1_ hbw1_ hsz1_
  go_wp2_with (first | (with_reducible refine wpl_storeb (o := ⟨none, .store _ _ _, _, _, _, _⟩) rfl rfl row_header HB1_.out.blk rfl rfl HB1_.out.len HHD.out.len HHD.out.one ?_))
  intro w2_ hb2_ hg2_ hsz2_
  have hb_ := var_grow HBW1_.out HZ1_.out hg2_
  have HX_ := Lib.hid (at_mk hb2_ HHD.out.len)
  clear hb2_ hg2_ hsz2_ HB1_ HBW1_ HZ1_
  have HB_ := Lib.hid (HB.out.grow' hb_)
  clear HB
  have HB := HB_
  clear HB_
  have HE_ := Lib.hid (HE.out.grow hb_)
  clear HE
  have HE := HE_
  clear HE_
  have HRA_ := Lib.hid (HRA.out.grow hb_)
  clear HRA
  have HRA := HRA_
  clear HRA_
  have HT_ := Lib.hid (HT.out.grow hb_)
  clear HT
  have HT := HT_
  clear HT_
  have HL2_ := Lib.hid (HL2.out.grow hb_)
  clear HL2
  have HL2 := HL2_
  clear HL2_
  generalize hg_ : w_.heap.size = gh at HX_ ⊢
  clear hg_
  have HH := HX_
  clear hb_ HX_
  clear w1_
  try clear w_
  rename World => w_
  go_wp2_with (first | (with_reducible refine wpl_loadb (o := ⟨_, .load _ _, _, _, _, _⟩) rfl rfl row_entry HE.out.blk rfl HE.out.len ?_) | (with_reducible refine wpl_loadw (o := ⟨_, .load _ _, _, _, _, _⟩) (by first | rfl | (go_simp; done) | fail) rfl row_entry HE.out.blk rfl HE.out.len ?_) | (with_reducible refine wpl_loadb (o := ⟨_, .load _ _, _, _, _, _⟩) rfl rfl row_header HH.out.blk rfl HH.out.len ?_) | (with_reducible refine wpl_loadw (o := ⟨_, .load _ _, _, _, _, _⟩) (by first | rfl | (go_simp; done) | fail) rfl row_header HH.out.blk rfl HH.out.len ?_))
  refine (MK.out _ _ _ _ _ _ HRA.out HL2.out HT.out).mono ?_
  rintro e w2_ ⟨A3, n3, c3, rfl, hi_, hn3, _, hb_⟩
  have HI := Lib.hid hi_
  have HN3 := Lib.hid hn3
  clear hi_ hn3 MK
  have hb_ := hb_
  clear hb_
  have HB_ := Lib.hid (HB.out.grow' hb_)
  clear HB
  have HB := HB_
  clear HB_
  have HRA_ := Lib.hid (HRA.out.grow hb_)
  clear HRA
  have HRA := HRA_
  clear HRA_
  have HT_ := Lib.hid (HT.out.grow hb_)
  clear HT
  have HT := HT_
  clear HT_
  clear hb_
  try clear w_
  rename World => w_
  have CL3 := Lib.hid (CL.out A3 n3 c3); have C53 := Lib.hid (C5.out A3 n3 c3); have CS3 := Lib.hid (CS.out A3 n3 c3)
  have I13 := Lib.hid (fun g A c w => I1.out g A c A3 n3 c3 w); have I23 := Lib.hid (fun w => I2.out A3 n3 c3 w); have I33 := Lib.hid (fun g A c w => I3.out g A c A3 n3 c3 w)
  clear CL C5 CS I1 I2 I3
  obtain ⟨cv, hcv⟩ : ∃ v, v = certV (.slice A3 n3 c3) y := ⟨_, rfl⟩
  obtain ⟨cu, hcu⟩ : ∃ v, v = certV (.slice A3 n3 c3) { y with tag := y.tag.set 5 (b5 ^^^ 1) } := ⟨_, rfl⟩
  rw [← hcv] at CL3 C53 CS3 I13 I23 ⊢
  rw [← hcu] at CS3 I33
  clear hcv hcu
  go_wp2_with (first | (with_reducible refine wpl_alloc (o := ⟨some 7, _, _, _, _, _⟩) rfl rfl zero_cert ?_))
  intro w1_ hb1_ hbw1_ hsz1_
  have HC1 := Lib.hid (at_mk hb1_ len_cert)
  have HU1 := Lib.hid hbw1_
  have HB1 := Lib.hid (HB.out.grow' hbw1_)
  have HG := Lib.hid HB.out.size
  have HG2 := Lib.hid (Nat.le_refl w_.heap.size)
  generalize hg_ : w_.heap.size = gc at HC1 HG HG2 ⊢
  rw [← hg_] at HG2
  have HG3 := Lib.hid (show w_.heap.size ≤ gc by rw [hg_]; exact Nat.le_refl _)
  clear hb1_ hbw1_ hsz1_ HG2 hg_
  go_wp2_with (first | (with_reducible refine wpl_storeb (o := ⟨none, .store _ _ _, _, _, _, _⟩) rfl rfl row_cert HC1.out.blk rfl rfl HC1.out.len CL3.out.len CL3.out.one ?_))
  intro w2_ hb2_ hg2_ hsz2_
  have HC := Lib.hid (at_mk hb2_ CL3.out.len)
  have HU := Lib.hid (show Up w_ w2_ from put_below HU1.out HG3.out hg2_)
  have HB2 := Lib.hid (put_below HB1.out HG.out hg2_)
  clear hb2_ hg2_ hsz2_ HC1 HU1 HB1 HB
  have HB := HB2
  clear HB2
  clear w1_
  rename World => w_
  go_wp2_with (first | (with_reducible refine wpl_loadb (o := ⟨_, .load _ _, _, _, _, _⟩) rfl rfl row_cert HC.out.blk rfl HC.out.len ?_) | (with_reducible refine wpl_loadw (o := ⟨_, .load _ _, _, _, _, _⟩) (by first | rfl | (go_simp; done) | fail) rfl row_cert HC.out.blk rfl HC.out.len ?_))
  refine (I13.out _ _ _ _ (HRA.out.grow HU.out) HN3.out (HI.out.grow HU.out) (HT.out.grow HU.out)).mono ?_
  rintro e w2_ ⟨rfl, hb_⟩
  clear I13
  have hb_ := hb_
  clear hb_
  have HB_ := Lib.hid (HB.out.grow' hb_)
  clear HB
  have HB := HB_
  clear HB_
  have HC_ := Lib.hid (HC.out.grow hb_)
  clear HC
  have HC := HC_
  clear HC_
  have HU_ := Lib.hid (HU.out.grow hb_)
  clear HU
  have HU := HU_
  clear HU_
  clear hb_
  try clear w_
  rename World => w_
  go_wp2_with (first | (with_reducible refine wpl_loadb (o := ⟨_, .load _ _, _, _, _, _⟩) rfl rfl row_cert HC.out.blk rfl HC.out.len ?_) | (with_reducible refine wpl_loadw (o := ⟨_, .load _ _, _, _, _, _⟩) (by first | rfl | (go_simp; done) | fail) rfl row_cert HC.out.blk rfl HC.out.len ?_))
  refine (I23.out _).mono ?_
  rintro e w2_ ⟨rfl, hb_⟩
  clear I23
  have hb_ := hb_
  clear hb_
  have HB_ := Lib.hid (HB.out.grow' hb_)
  clear HB
  have HB := HB_
  clear HB_
  have HC_ := Lib.hid (HC.out.grow hb_)
  clear HC
  have HC := HC_
  clear HC_
  have HU_ := Lib.hid (HU.out.grow hb_)
  clear HU
  have HU := HU_
  clear HU_
  clear hb_
  try clear w_
  rename World => w_
  have c5 : w_.cell? ⟨gc, 110, none⟩ = some (.int .u8 (b8 b5)) := HC.out.blk.at_ C53.out
  have hx1 : Op.intBits .xor .u8 (b8 b5) 1 = pure (.int .u8 (b8 (b5 ^^^ 1))) := xor_b b5 1
  go_wp2_with (first | (refine wpl_store1 (o := ⟨none, .store _ _ _, _, _, _, _⟩) rfl rfl HC.out.blk rfl rfl (by kernel_rfl) rfl rfl (by have := HC.out.len; omega) ?_))
  intro w2_ hb2_ hg2_ hsz2_
  have HC2 := Lib.hid (show At w2_ gc 74 137 cu by rw [← CS3.out]; exact at_mk hb2_ ((List.length_set ..).trans HC.out.len))
  have HU2 := Lib.hid (show Up _ w2_ from put_below HU.out HG3.out hg2_)
  have HB2 := Lib.hid (put_below HB.out HG.out hg2_)
  clear hb2_ hg2_ hsz2_ c5 HC HU HB
  have HC := HC2; have HU := HU2; have HB := HB2
  clear HC2 HU2 HB2
  try clear w_
  rename World => w_
  have HCL := Lib.hid HC.out.len
  go_wp2_with (first | (with_reducible refine wpl_loadb (o := ⟨_, .load _ _, _, _, _, _⟩) rfl rfl row_cert HC.out.blk rfl HC.out.len ?_) | (with_reducible refine wpl_loadw (o := ⟨_, .load _ _, _, _, _, _⟩) (by first | rfl | (go_simp; done) | fail) rfl row_cert HC.out.blk rfl HC.out.len ?_))
  refine (I33.out _ _ _ _ (HRA.out.grow HU.out) HN3.out (HI.out.grow HU.out) (HT.out.grow HU.out)).mono ?_
  rintro e w2_ ⟨rfl, hb_⟩
  have hb_ := hb_
  clear hb_
  have HB_ := Lib.hid (HB.out.grow' hb_)
  clear HB
  have HB := HB_
  clear HB_
  clear hb_
  try clear w_
  rename World => w_
  go_wp2_with fail
  go_ret
  exact ⟨rfl, HB.out⟩
end Go.Proofs.YtphmefhnffoafaaDoor

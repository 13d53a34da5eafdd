/- Contract of the document's Made. Printed by mkcertg.py. -/
import Derived.Test.YtphmefhnffoafaaDoorCertTellsB2
import Derived.Test.YtphmefhnffoafaaDoorCertSameB5
import Derived.Test.YtphmefhnffoafaaDoorCertTellsB3
set_option linter.unusedSimpArgs false
/- Contract of the document's Made. Printed by mkcertg.py. -/
namespace Go.Proofs.YtphmefhnffoafaaDoor
open Go.RowKit Go.Shelf
set_option linter.unusedVariables false
theorem ls_rpath_any {w : World} {A : Option Addr} {n c : Nat} {ls ds : List (List UInt8)} {i : Int} (h : LS w A n c ls) (hd : pathI ls i = ds) (hn : n ≤ 1000000) (hl : ∀ l ∈ ls, l.length ≤ 1000000) (ht : Tabs w) :
    Calls Tryd.prog 93 #[.slice A n c, .int .i64 i] w fun e w' => ∃ A' c', e = .returned (.slice A' ds.length c') ∧ OwnI w' w.heap.size A' ds.length c' ds ∧ Below w.heap.size w w' := by
  obtain ⟨ps, hp, hm, hc⟩ := h
  exact (rpath_any n n c A ps i ds w (Nat.le_refl _) (by rw [hm]; exact hd) hp hc hn (fun p hp => hl _ (by rw [← hm]; exact List.mem_map_of_mem hp)) ht)
def madeOK (cmd : List UInt8) (x : Ent) (i : Int) : Bool := nextOK noHdr true (leavesB cmd x i) x.shard x.epoch
def madeC (seed cmd : List UInt8) (x : Ent) (i : Int) : Cer := ⟨x, pathI (leavesB cmd x i) 1, nextH noHdr true (leavesB cmd x i) x.shard x.epoch, tagB (keyS seed x.shard) (putHB (nextH noHdr true (leavesB cmd x i) x.shard x.epoch))⟩
def madeR (seed cmd : List UInt8) (x : Ent) (i : Int) : Cer := if madeOK cmd x i = true then madeC seed cmd x i else noCer
theorem leavesB_le {cmd : List UInt8} {x : Ent} {i : Int} (hx : x.ok) (hc : cmd.length ≤ 1000) (hi : U64 i) : ∀ l ∈ leavesB cmd x i, l.length ≤ 1000 := by
  intro l hl
  unfold leavesB at hl
  split at hl
  · rename_i h
    have h1 := putEB_len hx h.1
    have h2 := numB_le (n := i.toNat) (by omega)
    simp only [List.mem_cons, List.not_mem_nil, or_false] at hl
    rcases hl with rfl | rfl | rfl <;> omega
  · simp at hl
theorem leavesB_n {cmd : List UInt8} {x : Ent} {i : Int} : (leavesB cmd x i).length ≤ 3 := by
  unfold leavesB; split <;> simp
theorem madeOK_ok {cmd : List UInt8} {x : Ent} {i : Int} (h : madeOK cmd x i = true) : okL x i = true ∧ rightH (nextH noHdr true (leavesB cmd x i) x.shard x.epoch) = true := by
  unfold madeOK nextOK at h
  simp only [Bool.and_eq_true, decide_eq_true_eq] at h
  refine ⟨?_, h.2⟩
  cases ho : okL x i with
  | true => rfl
  | false => have := leavesB_no (c := cmd) ho; rw [this] at h; simp at h
theorem nextH_ok {ls : List (List UInt8)} {s ep : Int} (hs : I64 s) (he : I64 ep) : (nextH noHdr true ls s ep).ok := by
  refine ⟨hs, by simp [I64, nextH], he, by simp [nextH, zeroD], rootB_len ls⟩
theorem madeC_ok {seed cmd : List UInt8} {x : Ent} {i : Int} (hx : x.ok) : (madeC seed cmd x i).ok := ⟨hx, pathI_32 _ 1, nextH_ok hx.2.1 hx.2.2.2.2.2, tagB_length _ _⟩
set_option maxRecDepth 100000 in
set_option maxHeartbeats 4000000 in
theorem rmade_any {seed cmd : List UInt8} {A : Option Addr} {n c : Nat} {A2 : Option Addr} {n2 c2 : Nat} {x : Ent} {i : Int} {ok : Bool} {y : Cer} (hok : madeOK cmd x i = ok) (hy : madeR seed cmd x i = y) (w : World) (hs : Sl w w.heap.size 1 A n (seed.map B)) (hn : n ≤ 1000) (hs2 : Sl w w.heap.size 1 A2 n2 (cmd.map B)) (hc2 : n2 ≤ c2) (hn2 : n2 ≤ 1000) (hx : x.ok) (hi : U64 i) (ht : Tabs w) :
    Calls Tryd.prog 47 #[.slice A n c, .slice A2 n2 c2, .agg (entV x).toArray, .int .u64 i] w fun e w' => ∃ A' n' c', e = .returned (.tuple #[.agg (certV (.slice A' n' c') y).toArray, .bool ok]) ∧ Ids w' A' n' c' y.path ∧ n' ≤ 1000000 ∧ Below w.heap.size w w' := by
  have HS := Lib.hid hs; have HT := Lib.hid ht; have HS2 := Lib.hid hs2
  have HB := Lib.hid (Below.refl w.heap.size w)
  have hcl : cmd.length = n2 := by have := hs2.len; simpa using this
  have HY0 := Lib.hid (show ok = false → y = noCer from fun k => by rw [← hy]; unfold madeR; rw [hok, if_neg (by simp [k])])
  have HY1 := Lib.hid (show ok = true → y = madeC seed cmd x i from fun k => by rw [← hy]; unfold madeR; rw [hok, if_pos k])
  have HRL := Lib.hid (fun w hs => rleaves_any A2 n2 c2 cmd x i w hs hc2 (by omega) hx hi)
  have HIN := Lib.hid (ent_at hx)
  have HRX := Lib.hid (fun A n c w hl hn ht => rnext_any noHdr true A n c (leavesB cmd x i) x.shard x.epoch w noHdr_ok hl hn (by have := @leavesB_n cmd x i; omega) (fun l hl => by have := leavesB_le hx (by omega) hi l hl; omega) hx.2.1 hx.2.2.2.2.2 ht)
  rw [show nextOK noHdr true (leavesB cmd x i) x.shard x.epoch = ok from hok] at HRX
  have HNB := Lib.hid (show ok = true → nextB noHdr true (leavesB cmd x i) x.shard x.epoch = (madeC seed cmd x i).h from fun k => by rw [← hok] at k; exact nextB_yes k)
  have HNK := Lib.hid (nextB_ok (p := noHdr) (first := true) (ls := leavesB cmd x i) (s := x.shard) (ep := x.epoch))
  have HRH := Lib.hid (show ok = true → rightH (madeC seed cmd x i).h = true from fun k => by rw [← hok] at k; exact (madeOK_ok k).2)
  have HP := Lib.hid (fun A n c w hl hn ht => ls_rpath_any (A := A) (n := n) (c := c) (i := 1) (w := w) hl (show pathI (leavesB cmd x i) 1 = (madeC seed cmd x i).path from rfl) hn (fun l hl => by have := leavesB_le hx (by omega) hi l hl; omega) ht)
  have HMO := madeC_ok (seed := seed) (cmd := cmd) (i := i) hx
  have HP32 := Lib.hid (show ∀ d ∈ (madeC seed cmd x i).path, d.length = 32 from HMO.2.1)
  have HPL := Lib.hid (show (madeC seed cmd x i).path.length ≤ 1000000 by have h1 := pathI_le (leavesB cmd x i) 1; have h2 := @leavesB_n cmd x i; show (pathI (leavesB cmd x i) 1).length ≤ _; omega)
  have HLN := Lib.hid (@leavesB_n cmd x i)
  have BT := Lib.hid (fun A n c => bt_cert HMO (A := A) (n := n) (c := c))
  have CL := Lib.hid (fun (A : Option Addr) (n c : Nat) => cert_cl (v := .slice A n c) rfl HMO)
  have HZ := Lib.hid (dig_map HMO.2.2.2)
  have HPH := Lib.hid (fun w h => rhput_any (madeC seed cmd x i).h w HMO.2.2.1 h)
  have HPHL := Lib.hid (fun h => putHB_len (h := (madeC seed cmd x i).h) HMO.2.2.1 h)
  have HSG := Lib.hid (show ok = true → ∃ k : Nat, x.shard = (k : Int) ∧ k ≤ 63 ∧ Dig ((madeC seed cmd x i).tag.map B) (tagB (tagB seed [UInt8.ofNat k]) (putHB (madeC seed cmd x i).h)) from fun k => by
    rw [← hok] at k
    have h1 := rightH_iff.1 (madeOK_ok k).2
    have h2 : (nextH noHdr true (leavesB cmd x i) x.shard x.epoch).shard = x.shard := rfl
    rw [h2] at h1
    refine ⟨x.shard.toNat, by omega, by omega, ?_, by rw [tagB_length]⟩
    rfl)
  have HDE := Lib.hid (ent_cl hx)
  have HMH := Lib.hid (show (hdrV (madeC seed cmd x i).h)[0]? = some (.int .i64 x.shard) from rfl)
  have HHC := Lib.hid (hdr_cl (nextB_ok (p := noHdr) (first := true) (ls := leavesB cmd x i) (s := x.shard) (ep := x.epoch)))
  have B0 := Lib.hid built_hdrE
  have BE := Lib.hid built_certE
  have CE := Lib.hid (cert_cl (v := .slice none 0 0) rfl noCer_ok)
  have ZC := Lib.hid zero_cert
  have LC := Lib.hid len_cert
  obtain ⟨ls, hls⟩ : ∃ q, q = leavesB cmd x i := ⟨_, rfl⟩
  rw [← hls] at HRL HRX HNB HNK HP HLN HHC
  obtain ⟨nb, hnb⟩ : ∃ q, q = nextB noHdr true ls x.shard x.epoch := ⟨_, rfl⟩
  rw [← hnb] at HRX HNB HNK HHC
  obtain ⟨mk, hmk⟩ : ∃ q, q = madeC seed cmd x i := ⟨_, rfl⟩
  have HM1 := Lib.hid (show mk.e = x by rw [hmk]; rfl)
  rw [← hmk] at HY1 HNB HRH HP HP32 HPL BT CL HZ HPH HPHL HSG HMH
  rw [HM1.out] at BT
  obtain ⟨ev, hev⟩ : ∃ v, v = entV x := ⟨_, rfl⟩
  obtain ⟨tv, htv⟩ : ∃ v, v = mk.tag.map B := ⟨_, rfl⟩
  obtain ⟨np, hnp⟩ : ∃ v, v = mk.path.length := ⟨_, rfl⟩
  obtain ⟨zc, hzc⟩ : ∃ v, v = certV (.slice none 0 0) noCer := ⟨_, rfl⟩
  obtain ⟨z0, hz0⟩ : ∃ v, v = hdrV noHdr := ⟨_, rfl⟩
  obtain ⟨bv, hbv⟩ : ∃ v, v = hdrV nb := ⟨_, rfl⟩
  obtain ⟨mv, hmv⟩ : ∃ v, v = hdrV mk.h := ⟨_, rfl⟩
  obtain ⟨sh, hsh⟩ : ∃ v, v = x.shard := ⟨_, rfl⟩
  obtain ⟨ep, hep⟩ : ∃ v, v = x.epoch := ⟨_, rfl⟩
  have HZC := Lib.hid hzc; have HNP := Lib.hid hnp
  have HBM := Lib.hid (show ok = true → bv = mv from fun k => by rw [hbv, hmv, HNB.out k])
  rw [← hev] at BT HDE HRL HIN ⊢
  rw [← htv] at BT HZ HSG
  rw [← hnp] at HP HPL
  rw [← hzc] at BE CE ZC LC
  rw [← hz0] at B0 HRX
  rw [← hbv] at HRX HHC
  rw [← hmv] at BT HPH HMH
  rw [← hsh] at HRX HSG HIN HMH
  rw [← hep] at HRX HIN
  clear hok hy hs hs2 ht hx hi hls hnb hmk hev htv hnp hzc hz0 hbv hmv hsh hep HM1 HMO hcl HNB
  go_enter Tryd.func47, Tryd.ntmps47
  go_wp2_with (first | (with_reducible refine wpl_box (o := ⟨some 6, _, _, _, _, _⟩) rfl rfl rfl ?_))
  intro w2_ hb2_ hb_ hsz2_
  have HX_ := Lib.hid (at_mk hb2_ HDE.out.len)
  clear hb2_ hsz2_
  have HB_ := Lib.hid (HB.out.grow' hb_)
  clear HB
  have HB := HB_
  clear HB_
  have HS_ := Lib.hid (HS.out.grow hb_)
  clear HS
  have HS := HS_
  clear HS_
  have HS2_ := Lib.hid (HS2.out.grow hb_)
  clear HS2
  have HS2 := HS2_
  clear HS2_
  have HT_ := Lib.hid (HT.out.grow hb_)
  clear HT
  have HT := HT_
  clear HT_
  have HXE := HX_
  clear hb_ HX_
  try clear w_
  rename World => w_
  go_wp2_with (first | (with_reducible refine wpl_alloc (o := ⟨some 8, _, _, _, _, _⟩) rfl rfl ZC.out ?_))
  intro w2_ hb2_ hb_ hsz2_
  have HC := Lib.hid (at_mk hb2_ LC.out)
  have HG := Lib.hid HB.out.size
  generalize hg_ : w_.heap.size = gc at HC HG ⊢
  clear hb2_ hsz2_ hg_
  have hb_ := hb_
  clear hb_
  have HB_ := Lib.hid (HB.out.grow' hb_)
  clear HB
  have HB := HB_
  clear HB_
  have HXE_ := Lib.hid (HXE.out.grow hb_)
  clear HXE
  have HXE := HXE_
  clear HXE_
  have HS_ := Lib.hid (HS.out.grow hb_)
  clear HS
  have HS := HS_
  clear HS_
  have HS2_ := Lib.hid (HS2.out.grow hb_)
  clear HS2
  have HS2 := HS2_
  clear HS2_
  have HT_ := Lib.hid (HT.out.grow hb_)
  clear HT
  have HT := HT_
  clear HT_
  clear hb_
  try clear w_
  rename World => w_
  go_wp2_with (first | (with_reducible refine wpl_loadb (o := ⟨some 14, _, _, _, _, _⟩) rfl rfl row_entry HXE.out.blk rfl HXE.out.len ?_))
  refine (HRL.out _ HS2.out).mono ?_
  rintro e w2_ ⟨A3, n3, c3, rfl, hl_, hn_, hb_⟩
  have HL := Lib.hid hl_; have HN3 := Lib.hid hn_
  clear hl_ hn_ HRL HS2
  have hb_ := hb_
  clear hb_
  have HB_ := Lib.hid (HB.out.grow' hb_)
  clear HB
  have HB := HB_
  clear HB_
  have HXE_ := Lib.hid (HXE.out.grow hb_)
  clear HXE
  have HXE := HXE_
  clear HXE_
  have HC_ := Lib.hid (HC.out.grow hb_)
  clear HC
  have HC := HC_
  clear HC_
  have HS_ := Lib.hid (HS.out.grow hb_)
  clear HS
  have HS := HS_
  clear HS_
  have HT_ := Lib.hid (HT.out.grow hb_)
  clear HT
  have HT := HT_
  clear HT_
  clear hb_
  try clear w_
  rename World => w_
  go_wp2_with (first | (with_reducible refine wpl_stop (o := ⟨some 18, _, _, _, _, _⟩) ?_))
  refine stop_go ?_
  refine wpl_build rfl rfl B0.out ?_
  have cs := HXE.out.blk.at_ HIN.out.2.1
  have ce := HXE.out.blk.at_ HIN.out.2.2.2.2
  go_wp2_with fail
  refine (HRX.out _ _ _ _ HL.out HN3.out HT.out).mono ?_
  rintro e w2_ ⟨rfl, hb_⟩
  clear cs ce HRX B0
  have hb_ := hb_
  clear hb_
  have HB_ := Lib.hid (HB.out.grow' hb_)
  clear HB
  have HB := HB_
  clear HB_
  have HXE_ := Lib.hid (HXE.out.grow hb_)
  clear HXE
  have HXE := HXE_
  clear HXE_
  have HC_ := Lib.hid (HC.out.grow hb_)
  clear HC
  have HC := HC_
  clear HC_
  have HS_ := Lib.hid (HS.out.grow hb_)
  clear HS
  have HS := HS_
  clear HS_
  have HT_ := Lib.hid (HT.out.grow hb_)
  clear HT
  have HT := HT_
  clear HT_
  have HL_ := Lib.hid (HL.out.grow hb_)
  clear HL
  have HL := HL_
  clear HL_
  clear hb_
  try clear w_
  rename World => w_
  go_wp2_with (first | (with_reducible refine wpl_alloc (o := ⟨some 11, _, _, _, _, _⟩) rfl rfl zero_header ?_))
  intro w1_ hb1_ hbw1_ hsz1_
  have HB1_ := Lib.hid (at_mk hb1_ len_header)
  have HBW1_ := Lib.hid hbw1_
  have HZ1_ := Lib.hid hsz1_
  clear hb1_ hbw1_ hsz1_
  go_wp2_with (first | (with_reducible refine wpl_storeb (o := ⟨none, .store _ _ _, _, _, _, _⟩) rfl rfl row_header HB1_.out.blk rfl rfl HB1_.out.len HHC.out.len HHC.out.one ?_))
  intro w2_ hb2_ hg2_ hsz2_
  have hb_ := var_grow HBW1_.out HZ1_.out hg2_
  have HX_ := Lib.hid (at_mk hb2_ HHC.out.len)
  clear hb2_ hg2_ hsz2_ HB1_ HBW1_ HZ1_
  have HB_ := Lib.hid (HB.out.grow' hb_)
  clear HB
  have HB := HB_
  clear HB_
  have HXE_ := Lib.hid (HXE.out.grow hb_)
  clear HXE
  have HXE := HXE_
  clear HXE_
  have HC_ := Lib.hid (HC.out.grow hb_)
  clear HC
  have HC := HC_
  clear HC_
  have HS_ := Lib.hid (HS.out.grow hb_)
  clear HS
  have HS := HS_
  clear HS_
  have HT_ := Lib.hid (HT.out.grow hb_)
  clear HT
  have HT := HT_
  clear HT_
  have HL_ := Lib.hid (HL.out.grow hb_)
  clear HL
  have HL := HL_
  clear HL_
  generalize hg_ : w_.heap.size = gh at HX_ ⊢
  clear hg_
  have HH := HX_
  clear hb_ HX_
  clear w1_
  try clear w_
  rename World => w_
  cases ok with
  | false =>
    go_wp2_with (first | (with_reducible refine wpl_stop (o := ⟨some 29, _, _, _, _, _⟩) ?_))
    refine stop_go ?_
    refine wpl_build rfl rfl BE.out ?_
    go_wp2_with (first | (with_reducible refine wpl_storeb (o := ⟨none, .store _ _ _, _, _, _, _⟩) rfl rfl row_cert HC.out.blk rfl rfl HC.out.len CE.out.len CE.out.one ?_))
    intro w2_ hb2_ hg2_ hsz2_
    have HB_ := Lib.hid (put_below HB.out HG.out hg2_)
    have HX_ := Lib.hid (at_mk hb2_ CE.out.len)
    clear hb2_ hg2_ hsz2_ HB HC
    have HB := HB_
    have HC := HX_
    clear HB_ HX_
    try clear w_
    rename World => w_
    go_wp2_with fail
    refine ret_cell2 rfl row_cert HC.out.blk rfl HC.out.len rfl rfl ?_
    have HYE := HY0.out (by first | trivial | rfl)
    refine ⟨none, 0, 0, ?_, ?_, by omega, HB.out⟩
    · rw [HYE, ← HZC.out]; rfl
    · rw [HYE]; exact Ids.none_ _
  | true =>
    have HYE := Lib.hid (HY1.out (by first | trivial | rfl))
    have hbm := HBM.out (by first | trivial | rfl)
    subst hbm
    obtain ⟨k, hk, hk63, hdg⟩ := HSG.out (by first | trivial | rfl)
    have HDG := Lib.hid hdg
    subst hk
    have HRR := Lib.hid (HRH.out (by first | trivial | rfl))
    have HPLH := Lib.hid (HPHL.out HRR.out)
    have HPP := Lib.hid (fun w => HPH.out w HRR.out)
    obtain ⟨nh, hnh⟩ : ∃ v, v = (putHB mk.h).length := ⟨_, rfl⟩
    rw [← hnh] at HPLH HPP
    obtain ⟨pb, hpb⟩ : ∃ v, v = putHB mk.h := ⟨_, rfl⟩
    rw [← hpb] at HPP HDG
    have HSGN := Lib.hid (fun A2 c2 w hs hs2 => trsign_any A A2 n c nh c2 seed pb k (by omega) HDG.out w hs hs2 (by omega) (by have := HPLH.out; omega))
    clear hdg hnh hpb HSG HBM HRH HPHL HPH HY0 HY1 HRR HDG
    have HL3 := Lib.hid (show n3 ≤ 1000000 by rw [HN3.out]; have := HLN.out; omega)
    try go_wp2_with fail
    repeat' (first | (with_reducible refine wp_plan (id := 5) Grow [1,0,4,1,0,0,1,1,4,4,0,3,0] (.get 0 (.get 1 (.get 3 (.get 4 (.get 5 (.get 6 (.get 7 (.act 2 (.act 8 (.act 9 (.get 10 (.act 11 (.get 12 .done))))))))))))) (by kernel_rfl) (by kernel_rfl) Grow.refl Grow.trans ?_) | go_values | go_skip | go_guarded | go_step | go_upon | go_back)
    intro w_ hd_
    have hb_ := hd_.grow
    have HB_ := Lib.hid (HB.out.grow' hb_)
    clear HB
    have HB := HB_
    clear HB_
    have HXE_ := Lib.hid (HXE.out.grow hb_)
    clear HXE
    have HXE := HXE_
    clear HXE_
    have HC_ := Lib.hid (HC.out.grow hb_)
    clear HC
    have HC := HC_
    clear HC_
    have HH_ := Lib.hid (HH.out.grow hb_)
    clear HH
    have HH := HH_
    clear HH_
    have HS_ := Lib.hid (HS.out.grow hb_)
    clear HS
    have HS := HS_
    clear HS_
    have HT_ := Lib.hid (HT.out.grow hb_)
    clear HT
    have HT := HT_
    clear HT_
    have HL_ := Lib.hid (HL.out.grow hb_)
    clear HL
    have HL := HL_
    clear HL_
    clear hb_ hd_
    have HCL0 := Lib.hid HC.out.lt
    have cmh := HH.out.blk.at_ HMH.out
    repeat (first | (refine pl_loadb rfl rfl (by first | exact wanted_none rfl | (go_simp; done) | rfl) rfl row_entry HXE.out.blk (by first | rfl | (go_simp; done) | rfl) HXE.out.len (fun K hK => ?_); go_simp; refine hK _ _ ?_; clear hK K) | (refine pl_loadbnow rfl rfl (by first | exact wanted_none rfl | (go_simp; done) | rfl) rfl row_entry HXE.out.blk (by first | rfl | (go_simp; done) | rfl) HXE.out.len (fun K hK => ?_); go_simp; refine hK _ _ ?_; clear hK K) | (refine pl_loadb rfl rfl (by first | exact wanted_none rfl | (go_simp; done) | rfl) rfl row_header HH.out.blk (by first | rfl | (go_simp; done) | rfl) HH.out.len (fun K hK => ?_); go_simp; refine hK _ _ ?_; clear hK K) | (refine pl_loadbnow rfl rfl (by first | exact wanted_none rfl | (go_simp; done) | rfl) rfl row_header HH.out.blk (by first | rfl | (go_simp; done) | rfl) HH.out.len (fun K hK => ?_); go_simp; refine hK _ _ ?_; clear hK K) | (refine pl_calm rfl rfl (by first | exact wanted_none rfl | (go_simp; done) | rfl) (fun w_ => by first | (go_simp; rfl) | (go_simp; done) | rfl) (fun K hK => ?_); go_simp; refine hK _ _ ?_; clear hK K) | (refine pl_skip rfl (by first | (go_simp; done) | rfl) (fun K hK => ?_); go_simp; refine hK _ _ ?_; clear hK K) | (refine pl_skipa rfl (by first | (go_simp; done) | rfl) (fun K hK => ?_); go_simp; refine hK _ _ ?_; clear hK K) | (refine pl_load rfl rfl (by first | exact wanted_none rfl | (go_simp; done) | rfl) rfl (by first | rfl | (go_simp; rfl)) (by kernel_rfl) (by first | exact cmh) (fun K hK => ?_); go_simp; refine hK _ _ ?_; clear hK K) | (refine pl_loadnow rfl rfl (by first | exact wanted_none rfl | (go_simp; done) | rfl) rfl (by first | rfl | (go_simp; rfl)) (by kernel_rfl) (by first | exact cmh) (fun K hK => ?_); go_simp; refine hK _ _ ?_; clear hK K))
    clear cmh
    refine pl_act rfl (by first | exact wanted_none rfl | (go_simp; done) | rfl) (fun K hK => ?_)
    go_wp2_with fail
    refine (HP.out _ _ _ _ HL.out HL3.out HT.out).mono ?_
    rintro e w_ ⟨A5, c5, rfl, hi_, hb_⟩
    go_wp2_with fail
    refine hK _ _ (fun _ => hb_) ?_
    clear hK K
    have HB_ := Lib.hid (HB.out.grow' hb_)
    clear HB
    have HB := HB_
    clear HB_
    have HXE_ := Lib.hid (HXE.out.grow hb_)
    clear HXE
    have HXE := HXE_
    clear HXE_
    have HC_ := Lib.hid (HC.out.grow hb_)
    clear HC
    have HC := HC_
    clear HC_
    have HH_ := Lib.hid (HH.out.grow hb_)
    clear HH
    have HH := HH_
    clear HH_
    have HS_ := Lib.hid (HS.out.grow hb_)
    clear HS
    have HS := HS_
    clear HS_
    clear hb_
    have HO := Lib.hid hi_
    have HOC := Lib.hid (show ∀ k, A5.map Addr.block = some k → gc < k from fun k hk => by have h1 := own_from hi_ k hk; have h2 := HCL0.out; omega)
    have HI := Lib.hid (show Ids w_ A5 np c5 mk.path from Ids.own hi_ HNP.out.symm HP32.out (own_cap hi_))
    clear hi_ HO
    refine pl_act rfl (by first | exact wanted_none rfl | (go_simp; done) | rfl) (fun K hK => ?_)
    go_wp2_with fail
    refine (HPP.out _).mono ?_
    rintro e w_ ⟨A7, c7, rfl, hs7_, hc7_, hb_⟩
    go_wp2_with fail
    refine hK _ _ (fun _ => hb_) ?_
    clear hK K
    have HB_ := Lib.hid (HB.out.grow' hb_)
    clear HB
    have HB := HB_
    clear HB_
    have HC_ := Lib.hid (HC.out.grow hb_)
    clear HC
    have HC := HC_
    clear HC_
    have HS_ := Lib.hid (HS.out.grow hb_)
    clear HS
    have HS := HS_
    clear HS_
    have HI_ := Lib.hid (HI.out.grow hb_)
    clear HI
    have HI := HI_
    clear HI_
    clear hb_
    have HS7 := Lib.hid hs7_
    clear hs7_ hc7_
    refine pl_act rfl (by first | exact wanted_none rfl | (go_simp; done) | rfl) (fun K hK => ?_)
    go_wp2_with fail
    refine (HSGN.out _ _ _ HS.out HS7.out).mono ?_
    rintro e w_ ⟨rfl, hb_⟩
    go_wp2_with fail
    refine hK _ _ (fun _ => hb_) ?_
    clear hK K
    have HB_ := Lib.hid (HB.out.grow' hb_)
    clear HB
    have HB := HB_
    clear HB_
    have HC_ := Lib.hid (HC.out.grow hb_)
    clear HC
    have HC := HC_
    clear HC_
    have HI_ := Lib.hid (HI.out.grow hb_)
    clear HI
    have HI := HI_
    clear HI_
    clear hb_
    have BT5 := Lib.hid (BT.out A5 np c5); have CL5 := Lib.hid (CL.out A5 np c5)
    obtain ⟨cv, hcv⟩ : ∃ v, v = certV (.slice A5 np c5) mk := ⟨_, rfl⟩
    have HCV := Lib.hid hcv
    rw [← hcv] at BT5 CL5
    clear BT CL hcv
    refine pl_calm rfl rfl (by exact wanted_none rfl) (fun w_ => by exact exec_build rfl BT5.out w_) (fun K hK => ?_)
    go_simp
    refine hK _ _ ?_
    clear hK K
    refine pl_act rfl (by first | exact wanted_none rfl | (go_simp; done) | rfl) (fun K hK => ?_)
    show wpList _ _ _ [⟨none, .store _ _ _, _, _, _, _⟩] _ _
    go_wp2_with (first | (with_reducible refine wpl_storeb (o := ⟨none, .store _ _ _, _, _, _, _⟩) rfl rfl row_cert HC.out.blk rfl rfl HC.out.len CL5.out.len CL5.out.one ?_))
    intro w4_ hb3_ hg3_ hsz3_
    have HX_ := Lib.hid (at_mk hb3_ CL5.out.len)
    have HI_ := Lib.hid (HI.out.off hg3_ HOC.out)
    have HB_ := Lib.hid (put_below HB.out HG.out hg3_)
    clear hb3_ hg3_ hsz3_ HC HI HB
    go_wp2_with fail
    refine hK _ _ (fun h => by cases h) ?_
    clear hK K
    repeat (first | (refine pl_calm rfl rfl (by first | exact wanted_none rfl | (go_simp; done) | rfl) (fun w_ => by first | (go_simp; rfl) | (go_simp; done) | rfl) (fun K hK => ?_); go_simp; refine hK _ _ ?_; clear hK K) | (refine pl_skip rfl (by first | (go_simp; done) | rfl) (fun K hK => ?_); go_simp; refine hK _ _ ?_; clear hK K) | (refine pl_skipa rfl (by first | (go_simp; done) | rfl) (fun K hK => ?_); go_simp; refine hK _ _ ?_; clear hK K))
    refine pl_done ?_
    go_wp2_with fail
    refine ret_cell2 rfl row_cert HX_.out.blk rfl HX_.out.len rfl rfl ?_
    refine ⟨A5, np, c5, ?_, ?_, HPL.out, HB_.out⟩
    · rw [HYE.out, ← HCV.out]; rfl
    · rw [HYE.out]; exact HI_.out
end Go.Proofs.YtphmefhnffoafaaDoor

/- The walk of CertMakes. Printed by mkwcmakes.py. -/
namespace Go.Proofs.YtphmefhnffoafaaDoor
open Go.RowKit Go.Shelf
set_option linter.unusedVariables false
theorem rightH_no : rightH noHdr = false := rfl
theorem make_made {seed cmd : List UInt8} {N : Nat} {e : Ent} {i : Int} : mkOK seed N (leavesB cmd e i) e (nextB noHdr true (leavesB cmd e i) e.shard e.epoch) = (madeOK cmd e i && decide (e.shard < N)) := by
  cases h : madeOK cmd e i with
  | false =>
    have h1 : nextB noHdr true (leavesB cmd e i) e.shard e.epoch = noHdr := nextB_no h
    rw [h1]; unfold mkOK; rw [rightH_no]; rfl
  | true =>
    have h1 : nextB noHdr true (leavesB cmd e i) e.shard e.epoch = nextH noHdr true (leavesB cmd e i) e.shard e.epoch := nextB_yes h
    obtain ⟨h2, h3⟩ := madeOK_ok h
    rw [h1, mk_first (o := e) h2 h3]; simp
theorem made_mk {seed cmd : List UInt8} {N : Nat} {e o : Ent} {i : Int} (h : (madeOK cmd e i && decide (e.shard < N)) = true) :
    mkC seed N (leavesB cmd e i) o (nextB noHdr true (leavesB cmd e i) e.shard e.epoch) = { madeR seed cmd e i with e := o } ∧ rightH (nextB noHdr true (leavesB cmd e i) e.shard e.epoch) = true := by
  simp only [Bool.and_eq_true, decide_eq_true_eq] at h
  have h1 : nextB noHdr true (leavesB cmd e i) e.shard e.epoch = nextH noHdr true (leavesB cmd e i) e.shard e.epoch := nextB_yes h.1
  obtain ⟨h2, h3⟩ := madeOK_ok h.1
  rw [h1]
  refine ⟨?_, h3⟩
  unfold madeR
  rw [if_pos h.1]
  have h4 := rightH_iff.1 h3
  have hsh : (nextH noHdr true (leavesB cmd e i) e.shard e.epoch).shard = e.shard := rfl
  rw [hsh] at h4
  unfold mkC madeC
  simp only
  rw [hsh, if_pos ⟨by omega, h.2⟩]
set_option maxRecDepth 100000 in
set_option maxHeartbeats 16000000 in
theorem certMakes_any (A : Option Addr) (n c : Nat) (seed : List UInt8) (A2 : Option Addr) (n2 c2 : Nat) (cmd : List UInt8) (x o : Ent) (i s : Int) (M N : Nat) (w : World) (hs : Sl w w.heap.size 1 A n (seed.map B)) (hc : n ≤ c) (hs2 : Sl w w.heap.size 1 A2 n2 (cmd.map B)) (hc2 : n2 ≤ c2)
    (hx : x.ok) (hox : o.ok) (hi : U64 i) (a1 : IntKind.i64.wrap s = s) (a2 : RowKit.wrap64 s = s) (q1 : s.tmod 64 = (M : Int)) (hM : M < 64) (q2 : (1 : Int) + (M : Int) = (N : Int)) (ht : Tabs w) :
    Calls Tryd.prog 11 #[.slice A n c, .slice A2 n2 c2, .agg (entV x).toArray, .agg (entV o).toArray, .int .u64 i, .int .u8 s] w fun e w' => e = .returned (.bool true) ∧ Below w.heap.size w w' := by
  have HS := Lib.hid hs; have HS2 := Lib.hid hs2; have HT := Lib.hid ht
  have HB := Lib.hid (Below.refl w.heap.size w)
  have HDE := Lib.hid (ent_cl hx); have HDO := Lib.hid (ent_cl hox)
  by_cases h1 : n ≤ 60
  rotate_left
  · have g1 : decide (60 < (n : Int)) = true := by simp; omega
    obtain ⟨ev, hev⟩ : ∃ v, v = entV x := ⟨_, rfl⟩
    obtain ⟨ov, hov⟩ : ∃ v, v = entV o := ⟨_, rfl⟩
    rw [← hev] at HDE ⊢
    rw [← hov] at HDO ⊢
    clear hs hs2 ht hx hox hi hev hov
    go_enter Tryd.func11, Tryd.ntmps11
    go_wp2_with (first | (with_reducible refine wpl_box (o := ⟨some 8, _, _, _, _, _⟩) rfl rfl rfl ?_))
    intro w2_ hb2_ hb_ hsz2_
    have HX_ := Lib.hid (at_mk hb2_ HDE.out.len)
    clear hb2_ hsz2_
    have HB_ := Lib.hid (HB.out.grow' hb_)
    clear HB
    have HB := HB_
    clear HB_
    have HT_ := Lib.hid (HT.out.grow hb_)
    clear HT
    have HT := HT_
    clear HT_
    have HE := HX_
    clear hb_ HX_
    try clear w_
    rename World => w_
    go_wp2_with (first | (with_reducible refine wpl_box (o := ⟨some 9, _, _, _, _, _⟩) rfl rfl rfl ?_))
    intro w2_ hb2_ hb_ hsz2_
    have HX_ := Lib.hid (at_mk hb2_ HDO.out.len)
    clear hb2_ hsz2_
    have HG_ := Lib.hid HB.out.size
    have HB_ := Lib.hid (HB.out.grow' hb_)
    clear HB
    have HB := HB_
    clear HB_
    have HT_ := Lib.hid (HT.out.grow hb_)
    clear HT
    have HT := HT_
    clear HT_
    generalize hg_ : w_.heap.size = g1 at HX_ HG_ ⊢
    clear hg_
    have HO_g := HG_
    clear HG_
    have HO := HX_
    clear hb_ HX_
    try clear w_
    rename World => w_
    go_wp2_with fail
    refine (awake11_any _ HT.out).mono ?_
    rintro e w_ ⟨rfl, hb_⟩
    have HB_ := Lib.hid (HB.out.grow' hb_)
    clear HB
    have HB := HB_
    clear HB_
    clear hb_
    go_wp2_with fail
    go_ret
    exact ⟨rfl, HB.out⟩
  have g1 : decide (60 < (n : Int)) = false := by simp; omega
  by_cases h2 : n2 ≤ 60
  rotate_left
  · have g2 : decide (60 < (n2 : Int)) = true := by simp; omega
    obtain ⟨ev, hev⟩ : ∃ v, v = entV x := ⟨_, rfl⟩
    obtain ⟨ov, hov⟩ : ∃ v, v = entV o := ⟨_, rfl⟩
    rw [← hev] at HDE ⊢
    rw [← hov] at HDO ⊢
    clear hs hs2 ht hx hox hi hev hov
    go_enter Tryd.func11, Tryd.ntmps11
    go_wp2_with (first | (with_reducible refine wpl_box (o := ⟨some 8, _, _, _, _, _⟩) rfl rfl rfl ?_))
    intro w2_ hb2_ hb_ hsz2_
    have HX_ := Lib.hid (at_mk hb2_ HDE.out.len)
    clear hb2_ hsz2_
    have HB_ := Lib.hid (HB.out.grow' hb_)
    clear HB
    have HB := HB_
    clear HB_
    have HT_ := Lib.hid (HT.out.grow hb_)
    clear HT
    have HT := HT_
    clear HT_
    have HE := HX_
    clear hb_ HX_
    try clear w_
    rename World => w_
    go_wp2_with (first | (with_reducible refine wpl_box (o := ⟨some 9, _, _, _, _, _⟩) rfl rfl rfl ?_))
    intro w2_ hb2_ hb_ hsz2_
    have HX_ := Lib.hid (at_mk hb2_ HDO.out.len)
    clear hb2_ hsz2_
    have HG_ := Lib.hid HB.out.size
    have HB_ := Lib.hid (HB.out.grow' hb_)
    clear HB
    have HB := HB_
    clear HB_
    have HT_ := Lib.hid (HT.out.grow hb_)
    clear HT
    have HT := HT_
    clear HT_
    generalize hg_ : w_.heap.size = g1 at HX_ HG_ ⊢
    clear hg_
    have HO_g := HG_
    clear HG_
    have HO := HX_
    clear hb_ HX_
    try clear w_
    rename World => w_
    go_wp2_with fail
    refine (awake11_any _ HT.out).mono ?_
    rintro e w_ ⟨rfl, hb_⟩
    have HB_ := Lib.hid (HB.out.grow' hb_)
    clear HB
    have HB := HB_
    clear HB_
    clear hb_
    go_wp2_with fail
    go_ret
    exact ⟨rfl, HB.out⟩
  have g2 : decide (60 < (n2 : Int)) = false := by simp; omega
  have hcl : cmd.length = n2 := by have := hs2.len; simpa using this
  have HN1 := Lib.hid (show 1 ≤ N by omega); have HN64 := Lib.hid (show N ≤ 64 by omega)
  have hN3 : (N : Int) ≠ 0 := by omega
  obtain ⟨mo, hmo⟩ : ∃ b, madeOK cmd x i = b := ⟨_, rfl⟩
  obtain ⟨y1, hy1⟩ : ∃ y, madeR seed cmd x i = y := ⟨_, rfl⟩
  obtain ⟨ok, hok⟩ : ∃ b, okL x i = b := ⟨_, rfl⟩
  obtain ⟨d, hd⟩ : ∃ b, decide (x.shard < (N : Int)) = b := ⟨_, rfl⟩
  obtain ⟨ls, hls⟩ : ∃ q, leavesB cmd x i = q := ⟨_, rfl⟩
  obtain ⟨hh, hhh⟩ : ∃ q, nextB noHdr true ls x.shard x.epoch = q := ⟨_, rfl⟩
  have hho : hh.ok := by rw [← hhh]; exact nextB_ok
  obtain ⟨r2, hr2⟩ : ∃ b, mkOK seed N ls x hh = b := ⟨_, rfl⟩
  obtain ⟨y2, hy2⟩ : ∃ y, mkR seed N ls x hh = y := ⟨_, rfl⟩
  obtain ⟨r3, hr3⟩ : ∃ b, mkOK seed N ls o hh = b := ⟨_, rfl⟩
  obtain ⟨y3, hy3⟩ : ∃ y, mkR seed N ls o hh = y := ⟨_, rfl⟩
  have HOM := Lib.hid (show mo = true → ok = true from fun k => by rw [← hok]; rw [← hmo] at k; exact (madeOK_ok k).1)
  have HR2 := Lib.hid (show r2 = (mo && d) by rw [← hr2, ← hhh, ← hls, make_made, hmo, hd])
  have hmm : r2 = true → mkC seed N ls o hh = { y1 with e := o } ∧ mkC seed N ls x hh = { y1 with e := x } ∧ rightH hh = true := fun k => by
    have k2 : (madeOK cmd x i && decide (x.shard < N)) = true := by rw [hmo, hd, ← HR2.out]; exact k
    rw [← hhh, ← hls, ← hy1]
    exact ⟨(made_mk (seed := seed) (o := o) k2).1, (made_mk (seed := seed) (o := x) k2).1, (made_mk (seed := seed) (o := o) k2).2⟩
  have hy1e : r2 = true → y1.e = x := fun k => by
    have k2 : mo = true := by have h := HR2.out; rw [k] at h; cases mo; simp at h; rfl
    rw [← hy1]; unfold madeR; rw [hmo, if_pos k2]; rfl
  have HY12 := Lib.hid (show r2 = true → y2 = y1 from fun k => by
    rw [← hy2]; unfold mkR; rw [hr2, if_pos k, (hmm k).2.1]
    have := hy1e k
    cases y1; simp only at this; subst this; rfl)
  have HY20 := Lib.hid (show r2 = false → y2 = noCer from fun k => by rw [← hy2]; unfold mkR; rw [hr2, if_neg (by simp [k])])
  have HR3 := Lib.hid (show r2 = true → isC seed N { y1 with e := o } = r3 from fun k => by
    rw [← hr3]; unfold mkOK; rw [(hmm k).2.2, (hmm k).1]; rfl)
  have HIS := Lib.hid (show r2 = true → isC seed N y2 = true from fun k => by
    have h := hr2; rw [k] at h; unfold mkOK at h
    simp only [Bool.and_eq_true] at h
    rw [← hy2]; unfold mkR; rw [hr2, if_pos k]; exact h.2)
  have hy1o : y1.ok := by
    rw [← hy1]; unfold madeR; split
    · exact madeC_ok hx
    · exact noCer_ok
  have hy2o : y2.ok := by
    rw [← hy2]; unfold mkR; split
    · exact mkC_ok hx hho
    · exact noCer_ok
  have hy3o : y3.ok := by
    rw [← hy3]; unfold mkR; split
    · exact mkC_ok hox hho
    · exact noCer_ok
  have hyo : ({ y1 with e := o } : Cer).ok := ⟨hox, hy1o.2.1, hy1o.2.2.1, hy1o.2.2.2⟩
  have hle : ∀ l ∈ ls, l.length ≤ 1000 := by rw [← hls]; exact leavesB_le hx (by omega) hi
  have hln : ls.length ≤ 3 := by rw [← hls]; exact leavesB_n
  have LV := Lib.hid (fun w hs => leaves_any A2 n2 c2 cmd x i w hs hc2 (by omega) hx hi)
  rw [hls, hok] at LV
  have NX := Lib.hid (fun A n c w hl hn ht => next_any noHdr true A n c ls x.shard x.epoch w noHdr_ok hl hn (by omega) (fun l hl => by have := hle l hl; omega) hx.2.1 hx.2.2.2.2.2 ht)
  rw [show nextOK noHdr true ls x.shard x.epoch = mo by rw [← hmo, ← hls]; rfl, hhh] at NX
  have MD := Lib.hid (fun w hs hs2 ht => rmade_any (A := A) (n := n) (c := c) (A2 := A2) (n2 := n2) (c2 := c2) hmo hy1 w hs (by omega) hs2 hc2 (by omega) hx hi ht)
  have MK := Lib.hid (fun g A c A2 n2 c2 w hr hl hn ht => cmake_any (g := g) (A := A) (c := c) (A2 := A2) (n2 := n2) (c2 := c2) hr2 hy2 w hr (by omega) hx hho hl hn (by omega) (fun l hl => by have := hle l hl; omega) ht)
  have MO := Lib.hid (fun g A c A2 n2 c2 w hr hl hn ht => cmake_any (g := g) (A := A) (c := c) (A2 := A2) (n2 := n2) (c2 := c2) hr3 hy3 w hr (by omega) hox hho hl hn (by omega) (fun l hl => by have := hle l hl; omega) ht)
  have IN := Lib.hid (ent_at hx)
  have HCH := Lib.hid (hdr_cl hho)
  have B0 := Lib.hid built_hdrE
  have BE := Lib.hid built_certE
  have C1 := Lib.hid (fun (A : Option Addr) (n c : Nat) => cert_cl (v := .slice A n c) rfl hy1o)
  have C2 := Lib.hid (fun (A : Option Addr) (n c : Nat) => cert_cl (v := .slice A n c) rfl hy2o)
  have C3 := Lib.hid (fun (A : Option Addr) (n c : Nat) => cert_cl (v := .slice A n c) rfl hy3o)
  have CO := Lib.hid (fun (A : Option Addr) (n c : Nat) => cert_cl (v := .slice A n c) rfl hyo)
  have SP1 := Lib.hid (fun (A : Option Addr) (n c : Nat) => splice_c1 (v := .slice A n c) (e := o) hy1o hox)
  have SP2 := Lib.hid (fun (h : r2 = true) (A : Option Addr) (n c : Nat) => (splice_c1 (v := .slice A n c) (e := x) hyo hx).trans (show certV (.slice A n c) { ({ y1 with e := o } : Cer) with e := x } = certV (.slice A n c) y1 by have := hy1e h; cases y1; simp only at this; subst this; rfl))
  have RO := Lib.hid (fun (h : r2 = true) A2 n2 c2 w hs hn hi => rcis_any (A := A) (n := n) (c := c) (A2 := A2) (n2 := n2) (c2 := c2) (HR3.out h) w hs (by omega) hyo hn hi)
  have IS := Lib.hid (fun (h : r2 = true) g A c A2 n2 c2 w hr hn hi ht => cis_any (g := g) (A := A) (c := c) (A2 := A2) (n2 := n2) (c2 := c2) (HIS.out h) w hr (by omega) hy2o hn hi ht)
  have S0 := Lib.hid (fun (h : r2 = false) A n c w hn hi => rcsame_any (A := A) (n := n) (c := c) (A2 := none) (n2 := 0) (c2 := 0) (x := y2) (y := noCer) (res := true) (by rw [HY20.out h]; simp) w hy2o noCer_ok hn hi (Ids.none_ _))
  have S1 := Lib.hid (fun (h : r2 = true) A n c A2 n2 c2 w hn hi hi2 => rcsame_any (A := A) (n := n) (c := c) (A2 := A2) (n2 := n2) (c2 := c2) (x := y2) (y := y1) (res := true) (by rw [HY12.out h]; simp) w hy2o hy1o hn hi hi2)
  have HHX := Lib.hid (show mo = false → d = d from fun _ => rfl)
  obtain ⟨ev, hev⟩ : ∃ v, v = entV x := ⟨_, rfl⟩
  obtain ⟨ov, hov⟩ : ∃ v, v = entV o := ⟨_, rfl⟩
  obtain ⟨hv, hhv⟩ : ∃ v, v = hdrV hh := ⟨_, rfl⟩
  obtain ⟨z0, hz0⟩ : ∃ v, v = hdrV noHdr := ⟨_, rfl⟩
  obtain ⟨zc, hzc⟩ : ∃ v, v = certV (.slice none 0 0) noCer := ⟨_, rfl⟩
  obtain ⟨sh, hsh⟩ : ∃ v, v = x.shard := ⟨_, rfl⟩
  obtain ⟨ep, hep⟩ : ∃ v, v = x.epoch := ⟨_, rfl⟩
  rw [← hev] at HDE LV MD MK IN SP2 ⊢
  rw [← hov] at HDO MO SP1 ⊢
  rw [← hhv] at NX MK MO HCH
  rw [← hz0] at NX B0
  rw [← hzc] at BE S0
  rw [← hsh] at NX IN hd
  rw [← hep] at NX IN
  have HD_ := Lib.hid hd
  clear hs hs2 ht hx hox hi hmo hy1 hok hd hls hhh hho hr2 hy2 hr3 hy3 hmm hy1e hy1o hy2o hy3o hyo hle hln hev hov hhv hz0 hzc hsh hep hcl HHX
  go_enter Tryd.func11, Tryd.ntmps11
  go_wp2_with (first | (with_reducible refine wpl_box (o := ⟨some 8, _, _, _, _, _⟩) rfl rfl rfl ?_))
  intro w2_ hb2_ hb_ hsz2_
  have HX_ := Lib.hid (at_mk hb2_ HDE.out.len)
  clear hb2_ hsz2_
  have HB_ := Lib.hid (HB.out.grow' hb_)
  clear HB
  have HB := HB_
  clear HB_
  have HS_ := Lib.hid (HS.out.grow hb_)
  clear HS
  have HS := HS_
  clear HS_
  have HS2_ := Lib.hid (HS2.out.grow hb_)
  clear HS2
  have HS2 := HS2_
  clear HS2_
  have HT_ := Lib.hid (HT.out.grow hb_)
  clear HT
  have HT := HT_
  clear HT_
  have HE := HX_
  clear hb_ HX_
  try clear w_
  rename World => w_
  go_wp2_with (first | (with_reducible refine wpl_box (o := ⟨some 9, _, _, _, _, _⟩) rfl rfl rfl ?_))
  intro w2_ hb2_ hb_ hsz2_
  have HX_ := Lib.hid (at_mk hb2_ HDO.out.len)
  clear hb2_ hsz2_
  have HG_ := Lib.hid HB.out.size
  have HB_ := Lib.hid (HB.out.grow' hb_)
  clear HB
  have HB := HB_
  clear HB_
  have HE_ := Lib.hid (HE.out.grow hb_)
  clear HE
  have HE := HE_
  clear HE_
  have HS_ := Lib.hid (HS.out.grow hb_)
  clear HS
  have HS := HS_
  clear HS_
  have HS2_ := Lib.hid (HS2.out.grow hb_)
  clear HS2
  have HS2 := HS2_
  clear HS2_
  have HT_ := Lib.hid (HT.out.grow hb_)
  clear HT
  have HT := HT_
  clear HT_
  generalize hg_ : w_.heap.size = g1 at HX_ HG_ ⊢
  clear hg_
  have HO_g := HG_
  clear HG_
  have HO := HX_
  clear hb_ HX_
  try clear w_
  rename World => w_
  go_wp2_with fail
  refine (keys_yes _ n c N seed _ HS.out hc (by omega) HN1.out HN64.out HT.out).mono ?_
  rintro e w_ ⟨g, A1, c1, rfl, hr_, hb_⟩
  have HB_ := Lib.hid (HB.out.grow' hb_)
  clear HB
  have HB := HB_
  clear HB_
  have HE_ := Lib.hid (HE.out.grow hb_)
  clear HE
  have HE := HE_
  clear HE_
  have HO_ := Lib.hid (HO.out.grow hb_)
  clear HO
  have HO := HO_
  clear HO_
  have HS_ := Lib.hid (HS.out.grow hb_)
  clear HS
  have HS := HS_
  clear HS_
  have HS2_ := Lib.hid (HS2.out.grow hb_)
  clear HS2
  have HS2 := HS2_
  clear HS2_
  have HT_ := Lib.hid (HT.out.grow hb_)
  clear HT
  have HT := HT_
  clear HT_
  clear hb_
  have HRA := Lib.hid hr_
  clear hr_
  go_wp2_with (first | (with_reducible refine wpl_loadb (o := ⟨_, .load _ _, _, _, _, _⟩) rfl rfl row_entry HE.out.blk rfl HE.out.len ?_) | (with_reducible refine wpl_loadw (o := ⟨_, .load _ _, _, _, _, _⟩) (by first | rfl | (go_simp; done) | fail) rfl row_entry HE.out.blk rfl HE.out.len ?_))
  refine (LV.out _ HS2.out).mono ?_
  rintro e w2_ ⟨A3, n3, c3, rfl, hl_, hn_, hb_⟩
  have HL := Lib.hid hl_; have HN3 := Lib.hid hn_
  clear hl_ hn_ LV
  have hb_ := hb_
  clear hb_
  have HB_ := Lib.hid (HB.out.grow' hb_)
  clear HB
  have HB := HB_
  clear HB_
  have HE_ := Lib.hid (HE.out.grow hb_)
  clear HE
  have HE := HE_
  clear HE_
  have HO_ := Lib.hid (HO.out.grow hb_)
  clear HO
  have HO := HO_
  clear HO_
  have HS_ := Lib.hid (HS.out.grow hb_)
  clear HS
  have HS := HS_
  clear HS_
  have HS2_ := Lib.hid (HS2.out.grow hb_)
  clear HS2
  have HS2 := HS2_
  clear HS2_
  have HT_ := Lib.hid (HT.out.grow hb_)
  clear HT
  have HT := HT_
  clear HT_
  have HRA_ := Lib.hid (HRA.out.grow hb_)
  clear HRA
  have HRA := HRA_
  clear HRA_
  clear hb_
  try clear w_
  rename World => w_
  go_wp2_with (first | (with_reducible refine wpl_stop (o := ⟨some 51, _, _, _, _, _⟩) ?_))
  refine stop_go ?_
  refine wpl_build rfl rfl B0.out ?_
  have cs := HE.out.blk.at_ IN.out.2.1
  have ce := HE.out.blk.at_ IN.out.2.2.2.2
  go_wp2_with fail
  refine (NX.out _ _ _ _ HL.out HN3.out HT.out).mono ?_
  rintro e w2_ ⟨rfl, hb_⟩
  clear cs ce NX B0
  have hb_ := hb_
  clear hb_
  have HB_ := Lib.hid (HB.out.grow' hb_)
  clear HB
  have HB := HB_
  clear HB_
  have HE_ := Lib.hid (HE.out.grow hb_)
  clear HE
  have HE := HE_
  clear HE_
  have HO_ := Lib.hid (HO.out.grow hb_)
  clear HO
  have HO := HO_
  clear HO_
  have HS_ := Lib.hid (HS.out.grow hb_)
  clear HS
  have HS := HS_
  clear HS_
  have HS2_ := Lib.hid (HS2.out.grow hb_)
  clear HS2
  have HS2 := HS2_
  clear HS2_
  have HT_ := Lib.hid (HT.out.grow hb_)
  clear HT
  have HT := HT_
  clear HT_
  have HRA_ := Lib.hid (HRA.out.grow hb_)
  clear HRA
  have HRA := HRA_
  clear HRA_
  have HL_ := Lib.hid (HL.out.grow hb_)
  clear HL
  have HL := HL_
  clear HL_
  clear hb_
  try clear w_
  rename World => w_
  go_wp2_with (first | (with_reducible refine wpl_alloc (o := ⟨some 17, _, _, _, _, _⟩) rfl rfl zero_header ?_))
  intro w1_ hb1_ hbw1_ hsz1_
  have HB1_ := Lib.hid (at_mk hb1_ len_header)
  have HBW1_ := Lib.hid hbw1_
  have HZ1_ := Lib.hid hsz1_
  clear hb1_ hbw1_ hsz1_
  go_wp2_with (first | (with_reducible refine wpl_storeb (o := ⟨none, .store _ _ _, _, _, _, _⟩) rfl rfl row_header HB1_.out.blk rfl rfl HB1_.out.len HCH.out.len HCH.out.one ?_))
  intro w2_ hb2_ hg2_ hsz2_
  have hb_ := var_grow HBW1_.out HZ1_.out hg2_
  have HX_ := Lib.hid (at_mk hb2_ HCH.out.len)
  clear hb2_ hg2_ hsz2_ HB1_ HBW1_ HZ1_
  have HB_ := Lib.hid (HB.out.grow' hb_)
  clear HB
  have HB := HB_
  clear HB_
  have HE_ := Lib.hid (HE.out.grow hb_)
  clear HE
  have HE := HE_
  clear HE_
  have HO_ := Lib.hid (HO.out.grow hb_)
  clear HO
  have HO := HO_
  clear HO_
  have HS_ := Lib.hid (HS.out.grow hb_)
  clear HS
  have HS := HS_
  clear HS_
  have HS2_ := Lib.hid (HS2.out.grow hb_)
  clear HS2
  have HS2 := HS2_
  clear HS2_
  have HT_ := Lib.hid (HT.out.grow hb_)
  clear HT
  have HT := HT_
  clear HT_
  have HRA_ := Lib.hid (HRA.out.grow hb_)
  clear HRA
  have HRA := HRA_
  clear HRA_
  have HL_ := Lib.hid (HL.out.grow hb_)
  clear HL
  have HL := HL_
  clear HL_
  generalize hg_ : w_.heap.size = gh at HX_ ⊢
  clear hg_
  have HH := HX_
  clear hb_ HX_
  clear w1_
  try clear w_
  rename World => w_
  go_wp2_with (first | (with_reducible refine wpl_loadb (o := ⟨_, .load _ _, _, _, _, _⟩) rfl rfl row_entry HE.out.blk rfl HE.out.len ?_) | (with_reducible refine wpl_loadw (o := ⟨_, .load _ _, _, _, _, _⟩) (by first | rfl | (go_simp; done) | fail) rfl row_entry HE.out.blk rfl HE.out.len ?_))
  refine (MD.out _ HS.out HS2.out HT.out).mono ?_
  rintro e w2_ ⟨A5, n5, c5, rfl, hi_, hn5, hb_⟩
  have HI1 := Lib.hid hi_; have HN5 := Lib.hid hn5
  clear hi_ hn5 MD
  have hb_ := hb_
  clear hb_
  have HB_ := Lib.hid (HB.out.grow' hb_)
  clear HB
  have HB := HB_
  clear HB_
  have HE_ := Lib.hid (HE.out.grow hb_)
  clear HE
  have HE := HE_
  clear HE_
  have HO_ := Lib.hid (HO.out.grow hb_)
  clear HO
  have HO := HO_
  clear HO_
  have HH_ := Lib.hid (HH.out.grow hb_)
  clear HH
  have HH := HH_
  clear HH_
  have HS_ := Lib.hid (HS.out.grow hb_)
  clear HS
  have HS := HS_
  clear HS_
  have HT_ := Lib.hid (HT.out.grow hb_)
  clear HT
  have HT := HT_
  clear HT_
  have HRA_ := Lib.hid (HRA.out.grow hb_)
  clear HRA
  have HRA := HRA_
  clear HRA_
  have HL_ := Lib.hid (HL.out.grow hb_)
  clear HL
  have HL := HL_
  clear HL_
  clear hb_
  try clear w_
  rename World => w_
  clear HS2
  have CL1 := Lib.hid (C1.out A5 n5 c5); have CLO := Lib.hid (CO.out A5 n5 c5)
  have SPA := Lib.hid (SP1.out A5 n5 c5); have SPB := Lib.hid (fun h => SP2.out h A5 n5 c5)
  have ROA := Lib.hid (fun h => RO.out h A5 n5 c5)
  obtain ⟨v1, hv1⟩ : ∃ v, v = certV (.slice A5 n5 c5) y1 := ⟨_, rfl⟩
  obtain ⟨vo, hvo⟩ : ∃ v, v = certV (.slice A5 n5 c5) { y1 with e := o } := ⟨_, rfl⟩
  have S1A := Lib.hid (fun h A n c => S1.out h A n c A5 n5 c5)
  rw [← hv1] at CL1 SPA SPB S1A ⊢
  rw [← hvo] at CLO SPA SPB ROA
  clear hv1 hvo C1 CO SP1 SP2 RO S1
  go_wp2_with (first | (with_reducible refine wpl_alloc (o := ⟨some 19, _, _, _, _, _⟩) rfl rfl zero_cert ?_))
  intro w1_ hb1_ hbw1_ hsz1_
  have HX1_ := Lib.hid (at_mk hb1_ len_cert); have HU1_ := Lib.hid hbw1_
  generalize hg_ : w_.heap.size = gw at HX1_ ⊢
  have HG_ := Lib.hid (show w_.heap.size ≤ gw by rw [hg_]; exact Nat.le_refl _)
  clear hb1_ hbw1_ hsz1_ hg_
  go_wp2_with (first | (with_reducible refine wpl_storeb (o := ⟨none, .store _ _ _, _, _, _, _⟩) rfl rfl row_cert HX1_.out.blk rfl rfl HX1_.out.len CL1.out.len CL1.out.one ?_))
  intro w2_ hb2_ hg2_ hsz2_
  have hb_ := put_below HU1_.out HG_.out hg2_
  have HX_ := Lib.hid (at_mk hb2_ CL1.out.len)
  clear hb2_ hg2_ hsz2_ HX1_ HU1_
  have HU := Lib.hid (show Up w_ w2_ from hb_)
  have HGW := HG_
  have HBG := Lib.hid (Nat.le_trans HB.out.size HG_.out)
  clear HG_
  have hb_ := hb_
  clear hb_
  have HB_ := Lib.hid (HB.out.grow' hb_)
  clear HB
  have HB := HB_
  clear HB_
  clear hb_
  try clear w_
  rename World => w_
  have HC1 := HX_
  clear HX_
  have HEn := Lib.hid (HE.out.grow HU.out); have HHn := Lib.hid (HH.out.grow HU.out)
  go_wp2_with (first | (with_reducible refine wpl_loadb (o := ⟨_, .load _ _, _, _, _, _⟩) rfl rfl row_entry HEn.out.blk rfl HEn.out.len ?_) | (with_reducible refine wpl_loadw (o := ⟨_, .load _ _, _, _, _, _⟩) (by first | rfl | (go_simp; done) | fail) rfl row_entry HEn.out.blk rfl HEn.out.len ?_) | (with_reducible refine wpl_loadb (o := ⟨_, .load _ _, _, _, _, _⟩) rfl rfl row_header HHn.out.blk rfl HHn.out.len ?_) | (with_reducible refine wpl_loadw (o := ⟨_, .load _ _, _, _, _, _⟩) (by first | rfl | (go_simp; done) | fail) rfl row_header HHn.out.blk rfl HHn.out.len ?_))
  clear HEn HHn
  refine (MK.out _ _ _ _ _ _ _ (HRA.out.grow HU.out) (HL.out.grow HU.out) HN3.out (HT.out.grow HU.out)).mono ?_
  rintro e w2_ ⟨A6, n6, c6, rfl, hi_, hn6, hne_, hb_⟩
  have HI2 := Lib.hid hi_; have HN6 := Lib.hid hn6
  have HNE2 := Lib.hid (show ∀ k, A6.map Addr.block = some k → gw < k from fun k hk => by have h1 := hne_ k hk; have h2 := HC1.out.lt; omega)
  clear hi_ hn6 hne_ MK
  have hb_ := hb_
  clear hb_
  have HB_ := Lib.hid (HB.out.grow' hb_)
  clear HB
  have HB := HB_
  clear HB_
  have HC1_ := Lib.hid (HC1.out.grow hb_)
  clear HC1
  have HC1 := HC1_
  clear HC1_
  have HU_ := Lib.hid (HU.out.grow hb_)
  clear HU
  have HU := HU_
  clear HU_
  clear hb_
  try clear w_
  rename World => w_
  have CL2 := Lib.hid (C2.out A6 n6 c6)
  have ISA := Lib.hid (fun h g A c => IS.out h g A c A6 n6 c6)
  have S0A := Lib.hid (fun h => S0.out h A6 n6 c6); have S1B := Lib.hid (fun h => S1A.out h A6 n6 c6)
  obtain ⟨v2, hv2⟩ : ∃ v, v = certV (.slice A6 n6 c6) y2 := ⟨_, rfl⟩
  rw [← hv2] at CL2 ISA S0A S1B ⊢
  clear hv2 C2 IS S0 S1A
  go_wp2_with (first | (with_reducible refine wpl_alloc (o := ⟨some 21, _, _, _, _, _⟩) rfl rfl zero_cert ?_))
  intro w1_ hb1_ hbw1_ hsz1_
  have HX1_ := Lib.hid (at_mk hb1_ len_cert); have HU1_ := Lib.hid hbw1_
  have HNE_ := Lib.hid HC1.out.lt
  generalize hg_ : w_.heap.size = gq at HX1_ HNE_ ⊢
  have HG_ := Lib.hid (show w_.heap.size ≤ gq by rw [hg_]; exact Nat.le_refl _)
  clear hb1_ hbw1_ hsz1_ hg_
  go_wp2_with (first | (with_reducible refine wpl_storeb (o := ⟨none, .store _ _ _, _, _, _, _⟩) rfl rfl row_cert HX1_.out.blk rfl rfl HX1_.out.len CL2.out.len CL2.out.one ?_))
  intro w2_ hb2_ hg2_ hsz2_
  have hb_ := put_below HU1_.out HG_.out hg2_
  have HX_ := Lib.hid (at_mk hb2_ CL2.out.len)
  clear hb2_ hg2_ hsz2_ HX1_ HU1_
  have HNQ := HNE_
  clear HNE_
  clear HG_
  have hb_ := hb_
  clear hb_
  have HB_ := Lib.hid (HB.out.grow' hb_)
  clear HB
  have HB := HB_
  clear HB_
  have HC1_ := Lib.hid (HC1.out.grow hb_)
  clear HC1
  have HC1 := HC1_
  clear HC1_
  have HU_ := Lib.hid (HU.out.grow hb_)
  clear HU
  have HU := HU_
  clear HU_
  have HI2_ := Lib.hid (HI2.out.grow hb_)
  clear HI2
  have HI2 := HI2_
  clear HI2_
  clear hb_
  try clear w_
  rename World => w_
  have HC2 := HX_
  clear HX_
  have HEn := Lib.hid (HE.out.grow HU.out)
  have cs := HEn.out.blk.at_ IN.out.2.1
  have hd := HD_.out
  cases mo with
  | false =>
    have h2 := HR2.out
    simp only [Bool.false_and] at h2
    subst h2
    cases ok with
    | false =>
      have S0B := Lib.hid (S0A.out rfl)
      go_wp2_with (first | (with_reducible refine wpl_stop (o := ⟨some 96, _, _, _, _, _⟩) ?_) | (with_reducible refine wpl_loadb (o := ⟨some 95, _, _, _, _, _⟩) rfl rfl row_cert HC2.out.blk rfl HC2.out.len ?_))
      refine stop_go ?_
      refine wpl_build rfl rfl BE.out ?_
      go_wp2_with fail
      refine (S0B.out _ HN6.out HI2.out).mono ?_
      clear cs hd HEn
      rintro e w2_ ⟨rfl, hb_⟩
      have hb_ := hb_
      clear hb_
      have HB_ := Lib.hid (HB.out.grow' hb_)
      clear HB
      have HB := HB_
      clear HB_
      have HU_ := Lib.hid (HU.out.grow hb_)
      clear HU
      have HU := HU_
      clear HU_
      clear hb_
      try clear w_
      rename World => w_
      have HTn := Lib.hid (HT.out.grow HU.out)
      go_wp2_with fail
      refine (awake11_any _ HTn.out).mono ?_
      rintro e w_ ⟨rfl, hb_⟩
      have HB_ := Lib.hid (HB.out.grow' hb_)
      clear HB
      have HB := HB_
      clear HB_
      clear hb_
      go_wp2_with fail
      go_ret
      exact ⟨rfl, HB.out⟩
    | true =>
      have S0B := Lib.hid (S0A.out rfl)
      go_wp2_with (first | (with_reducible refine wpl_stop (o := ⟨some 96, _, _, _, _, _⟩) ?_) | (with_reducible refine wpl_loadb (o := ⟨some 95, _, _, _, _, _⟩) rfl rfl row_cert HC2.out.blk rfl HC2.out.len ?_))
      refine stop_go ?_
      refine wpl_build rfl rfl BE.out ?_
      go_wp2_with fail
      refine (S0B.out _ HN6.out HI2.out).mono ?_
      clear cs hd HEn
      rintro e w2_ ⟨rfl, hb_⟩
      have hb_ := hb_
      clear hb_
      have HB_ := Lib.hid (HB.out.grow' hb_)
      clear HB
      have HB := HB_
      clear HB_
      have HU_ := Lib.hid (HU.out.grow hb_)
      clear HU
      have HU := HU_
      clear HU_
      clear hb_
      try clear w_
      rename World => w_
      have HTn := Lib.hid (HT.out.grow HU.out)
      go_wp2_with fail
      refine (awake11_any _ HTn.out).mono ?_
      rintro e w_ ⟨rfl, hb_⟩
      have HB_ := Lib.hid (HB.out.grow' hb_)
      clear HB
      have HB := HB_
      clear HB_
      clear hb_
      go_wp2_with fail
      go_ret
      exact ⟨rfl, HB.out⟩
  | true =>
    have hok := HOM.out rfl
    subst hok
    have h2 := HR2.out
    simp only [Bool.true_and] at h2
    subst h2
    cases r2 with
    | false =>
      have S0B := Lib.hid (S0A.out rfl)
      go_wp2_with (first | (with_reducible refine wpl_stop (o := ⟨some 96, _, _, _, _, _⟩) ?_) | (with_reducible refine wpl_loadb (o := ⟨some 95, _, _, _, _, _⟩) rfl rfl row_cert HC2.out.blk rfl HC2.out.len ?_))
      refine stop_go ?_
      refine wpl_build rfl rfl BE.out ?_
      go_wp2_with fail
      refine (S0B.out _ HN6.out HI2.out).mono ?_
      clear cs hd HEn
      rintro e w2_ ⟨rfl, hb_⟩
      have hb_ := hb_
      clear hb_
      have HB_ := Lib.hid (HB.out.grow' hb_)
      clear HB
      have HB := HB_
      clear HB_
      have HU_ := Lib.hid (HU.out.grow hb_)
      clear HU
      have HU := HU_
      clear HU_
      clear hb_
      try clear w_
      rename World => w_
      have HTn := Lib.hid (HT.out.grow HU.out)
      go_wp2_with fail
      refine (awake11_any _ HTn.out).mono ?_
      rintro e w_ ⟨rfl, hb_⟩
      have HB_ := Lib.hid (HB.out.grow' hb_)
      clear HB
      have HB := HB_
      clear HB_
      clear hb_
      go_wp2_with fail
      go_ret
      exact ⟨rfl, HB.out⟩
    | true =>
      have SPC := Lib.hid (SPB.out rfl); have ROB := Lib.hid (ROA.out rfl); have ISB := Lib.hid (ISA.out rfl); have S1C := Lib.hid (S1B.out rfl)
      have HOn := Lib.hid (HO.out.grow HU.out); have HHn := Lib.hid (HH.out.grow HU.out)
      go_wp2_with (first | (with_reducible refine wpl_loadb (o := ⟨_, .load _ _, _, _, _, _⟩) rfl rfl row_entry HOn.out.blk rfl HOn.out.len ?_) | (with_reducible refine wpl_loadw (o := ⟨_, .load _ _, _, _, _, _⟩) (by first | rfl | (go_simp; done) | fail) rfl row_entry HOn.out.blk rfl HOn.out.len ?_) | (with_reducible refine wpl_loadb (o := ⟨_, .load _ _, _, _, _, _⟩) rfl rfl row_header HHn.out.blk rfl HHn.out.len ?_) | (with_reducible refine wpl_loadw (o := ⟨_, .load _ _, _, _, _, _⟩) (by first | rfl | (go_simp; done) | fail) rfl row_header HHn.out.blk rfl HHn.out.len ?_))
      clear HOn HHn HEn cs hd
      refine (MO.out _ _ _ _ _ _ _ (HRA.out.grow HU.out) (HL.out.grow HU.out) HN3.out (HT.out.grow HU.out)).mono ?_
      rintro e w2_ ⟨A7, n7, c7, rfl, hi_, hn7, hne_, hb_⟩
      clear hi_ hn7 hne_ MO
      have hb_ := hb_
      clear hb_
      have HB_ := Lib.hid (HB.out.grow' hb_)
      clear HB
      have HB := HB_
      clear HB_
      have HC1_ := Lib.hid (HC1.out.grow hb_)
      clear HC1
      have HC1 := HC1_
      clear HC1_
      have HU_ := Lib.hid (HU.out.grow hb_)
      clear HU
      have HU := HU_
      clear HU_
      have HC2_ := Lib.hid (HC2.out.grow hb_)
      clear HC2
      have HC2 := HC2_
      clear HC2_
      have HI2_ := Lib.hid (HI2.out.grow hb_)
      clear HI2
      have HI2 := HI2_
      clear HI2_
      clear hb_
      try clear w_
      rename World => w_
      have CL3 := Lib.hid (C3.out A7 n7 c7)
      obtain ⟨v3, hv3⟩ : ∃ v, v = certV (.slice A7 n7 c7) y3 := ⟨_, rfl⟩
      rw [← hv3] at CL3 ⊢
      clear hv3 C3
      go_wp2_with (first | (with_reducible refine wpl_alloc (o := ⟨some 23, _, _, _, _, _⟩) rfl rfl zero_cert ?_))
      intro w1_ hb1_ hbw1_ hsz1_
      have HX1_ := Lib.hid (at_mk hb1_ len_cert); have HU1_ := Lib.hid hbw1_
      generalize hg_ : w_.heap.size = gr at HX1_ ⊢
      have HG_ := Lib.hid (show w_.heap.size ≤ gr by rw [hg_]; exact Nat.le_refl _)
      clear hb1_ hbw1_ hsz1_ hg_
      go_wp2_with (first | (with_reducible refine wpl_storeb (o := ⟨none, .store _ _ _, _, _, _, _⟩) rfl rfl row_cert HX1_.out.blk rfl rfl HX1_.out.len CL3.out.len CL3.out.one ?_))
      intro w2_ hb2_ hg2_ hsz2_
      have hb_ := put_below HU1_.out HG_.out hg2_
      have HX_ := Lib.hid (at_mk hb2_ CL3.out.len)
      clear hb2_ hg2_ hsz2_ HX1_ HU1_
      clear HG_
      have hb_ := hb_
      clear hb_
      have HB_ := Lib.hid (HB.out.grow' hb_)
      clear HB
      have HB := HB_
      clear HB_
      have HC1_ := Lib.hid (HC1.out.grow hb_)
      clear HC1
      have HC1 := HC1_
      clear HC1_
      have HU_ := Lib.hid (HU.out.grow hb_)
      clear HU
      have HU := HU_
      clear HU_
      have HC2_ := Lib.hid (HC2.out.grow hb_)
      clear HC2
      have HC2 := HC2_
      clear HC2_
      have HI2_ := Lib.hid (HI2.out.grow hb_)
      clear HI2
      have HI2 := HI2_
      clear HI2_
      clear hb_
      try clear w_
      rename World => w_
      have HC3 := HX_
      clear HX_
      clear HC3
      have HOn := Lib.hid (HO.out.grow HU.out)
      go_wp2_with (first | (with_reducible refine wpl_loadb (o := ⟨some 109, _, _, _, _, _⟩) rfl rfl row_entry HOn.out.blk rfl HOn.out.len ?_) | (with_reducible refine wpl_storem (o := ⟨none, .store _ _ _, _, _, _, _⟩) (off := 0) rfl rfl row_entry HC1.out.blk rfl rfl HDO.out.len (by have := HC1.out.len; omega) HDO.out.one ?_))
      intro w2_ hb2_ hg2_ hsz2_
      have HC1_ := Lib.hid (show At w2_ gw 74 137 vo by rw [← SPA.out]; exact at_mk hb2_ (by rw [SPA.out]; exact CLO.out.len))
      have HU_ := Lib.hid (show Up _ w2_ from put_below HU.out HGW.out hg2_)
      have HC2_ := Lib.hid (At.off HC2.out hg2_ (Nat.ne_of_gt HNQ.out)); have HI2_ := Lib.hid (HI2.out.off hg2_ HNE2.out)
      have HB_ := Lib.hid (put_below HB.out HBG.out hg2_)
      clear hb2_ hg2_ hsz2_ HC1 HU HC2 HI2 HB HOn
      have HC1 := HC1_; have HU := HU_; have HC2 := HC2_; have HI2 := HI2_; have HB := HB_
      clear HC1_ HU_ HC2_ HI2_ HB_
      try clear w_
      rename World => w_
      go_wp2_with (first | (with_reducible refine wpl_loadb (o := ⟨some 113, _, _, _, _, _⟩) rfl rfl row_cert HC1.out.blk rfl HC1.out.len ?_))
      refine (ROB.out _ (HS.out.grow HU.out) HN5.out (HI1.out.grow HU.out)).mono ?_
      rintro e w2_ ⟨rfl, hb_⟩
      clear ROB
      have hb_ := hb_
      clear hb_
      have HB_ := Lib.hid (HB.out.grow' hb_)
      clear HB
      have HB := HB_
      clear HB_
      have HC1_ := Lib.hid (HC1.out.grow hb_)
      clear HC1
      have HC1 := HC1_
      clear HC1_
      have HU_ := Lib.hid (HU.out.grow hb_)
      clear HU
      have HU := HU_
      clear HU_
      have HC2_ := Lib.hid (HC2.out.grow hb_)
      clear HC2
      have HC2 := HC2_
      clear HC2_
      have HI2_ := Lib.hid (HI2.out.grow hb_)
      clear HI2
      have HI2 := HI2_
      clear HI2_
      clear hb_
      try clear w_
      rename World => w_
      have HEn := Lib.hid (HE.out.grow HU.out)
      go_wp2_with (first | (with_reducible refine wpl_loadb (o := ⟨some 115, _, _, _, _, _⟩) rfl rfl row_entry HEn.out.blk rfl HEn.out.len ?_) | (with_reducible refine wpl_storem (o := ⟨none, .store _ _ _, _, _, _, _⟩) (off := 0) rfl rfl row_entry HC1.out.blk rfl rfl HDE.out.len (by have := HC1.out.len; omega) HDE.out.one ?_))
      intro w2_ hb2_ hg2_ hsz2_
      have HC1_ := Lib.hid (show At w2_ gw 74 137 v1 by rw [← SPC.out]; exact at_mk hb2_ (by rw [SPC.out]; exact CL1.out.len))
      have HU_ := Lib.hid (show Up _ w2_ from put_below HU.out HGW.out hg2_)
      have HC2_ := Lib.hid (At.off HC2.out hg2_ (Nat.ne_of_gt HNQ.out)); have HI2_ := Lib.hid (HI2.out.off hg2_ HNE2.out)
      have HB_ := Lib.hid (put_below HB.out HBG.out hg2_)
      clear hb2_ hg2_ hsz2_ HC1 HU HC2 HI2 HB HEn
      have HC1 := HC1_; have HU := HU_; have HC2 := HC2_; have HI2 := HI2_; have HB := HB_
      clear HC1_ HU_ HC2_ HI2_ HB_
      try clear w_
      rename World => w_
      have heqb := eql_bb r3
      go_wp2_with (first | (with_reducible refine wpl_loadb (o := ⟨_, .load _ _, _, _, _, _⟩) rfl rfl row_cert HC1.out.blk rfl HC1.out.len ?_) | (with_reducible refine wpl_loadw (o := ⟨_, .load _ _, _, _, _, _⟩) (by first | rfl | (go_simp; done) | fail) rfl row_cert HC1.out.blk rfl HC1.out.len ?_) | (with_reducible refine wpl_loadb (o := ⟨_, .load _ _, _, _, _, _⟩) rfl rfl row_cert HC2.out.blk rfl HC2.out.len ?_) | (with_reducible refine wpl_loadw (o := ⟨_, .load _ _, _, _, _, _⟩) (by first | rfl | (go_simp; done) | fail) rfl row_cert HC2.out.blk rfl HC2.out.len ?_))
      refine (S1C.out _ HN6.out HI2.out (HI1.out.grow HU.out)).mono ?_
      rintro e w2_ ⟨rfl, hb_⟩
      clear S1C
      have hb_ := hb_
      clear hb_
      have HB_ := Lib.hid (HB.out.grow' hb_)
      clear HB
      have HB := HB_
      clear HB_
      have HC1_ := Lib.hid (HC1.out.grow hb_)
      clear HC1
      have HC1 := HC1_
      clear HC1_
      have HU_ := Lib.hid (HU.out.grow hb_)
      clear HU
      have HU := HU_
      clear HU_
      have HC2_ := Lib.hid (HC2.out.grow hb_)
      clear HC2
      have HC2 := HC2_
      clear HC2_
      have HI2_ := Lib.hid (HI2.out.grow hb_)
      clear HI2
      have HI2 := HI2_
      clear HI2_
      clear hb_
      try clear w_
      rename World => w_
      go_wp2_with (first | (with_reducible refine wpl_loadb (o := ⟨_, .load _ _, _, _, _, _⟩) rfl rfl row_cert HC1.out.blk rfl HC1.out.len ?_) | (with_reducible refine wpl_loadw (o := ⟨_, .load _ _, _, _, _, _⟩) (by first | rfl | (go_simp; done) | fail) rfl row_cert HC1.out.blk rfl HC1.out.len ?_) | (with_reducible refine wpl_loadb (o := ⟨_, .load _ _, _, _, _, _⟩) rfl rfl row_cert HC2.out.blk rfl HC2.out.len ?_) | (with_reducible refine wpl_loadw (o := ⟨_, .load _ _, _, _, _, _⟩) (by first | rfl | (go_simp; done) | fail) rfl row_cert HC2.out.blk rfl HC2.out.len ?_))
      refine (ISB.out _ _ _ _ (HRA.out.grow HU.out) HN6.out HI2.out (HT.out.grow HU.out)).mono ?_
      rintro e w2_ ⟨rfl, hb_⟩
      clear ISB
      have hb_ := hb_
      clear hb_
      have HB_ := Lib.hid (HB.out.grow' hb_)
      clear HB
      have HB := HB_
      clear HB_
      have HU_ := Lib.hid (HU.out.grow hb_)
      clear HU
      have HU := HU_
      clear HU_
      clear hb_
      try clear w_
      rename World => w_
      have HTn := Lib.hid (HT.out.grow HU.out)
      go_wp2_with fail
      refine (awake11_any _ HTn.out).mono ?_
      rintro e w_ ⟨rfl, hb_⟩
      have HB_ := Lib.hid (HB.out.grow' hb_)
      clear HB
      have HB := HB_
      clear HB_
      clear hb_
      go_wp2_with fail
      go_ret
      exact ⟨rfl, HB.out⟩
theorem certMakes_walk (A : Option Addr) (n c : Nat) (seed : List UInt8) (A2 : Option Addr) (n2 c2 : Nat) (cmd : List UInt8) (x o : Ent) (i s : Int) (w : World) (hs : Sl w w.heap.size 1 A n (seed.map B)) (hc : n ≤ c) (hm : c ≤ maxLen) (hs2 : Sl w w.heap.size 1 A2 n2 (cmd.map B)) (hc2 : n2 ≤ c2) (hm2 : c2 ≤ maxLen)
    (hx : x.ok) (hox : o.ok) (wi : (Lit.int .u64 i).wf = true) (ws : (Lit.int .u8 s).wf = true) (ht : Tabs w) :
    Calls Tryd.prog 11 #[.slice A n c, .slice A2 n2 c2, .agg (entV x).toArray, .agg (entV o).toArray, .int .u64 i, .int .u8 s] w fun e w' => e = .returned (.bool true) ∧ Below w.heap.size w w' := by
  have b1 := bounds_u8 ws
  have e1 : s.tmod 64 = s % 64 := Int.tmod_eq_emod_of_nonneg b1.1
  have p1 : (((s % 64).toNat : Nat) : Int) = s % 64 := by omega
  exact certMakes_any A n c seed A2 n2 c2 cmd x o i s (s % 64).toNat (1 + (s % 64).toNat) w hs hc hs2 hc2 hx hox (u64_of wi) (IntWalk.i64_in _ (by omega)) (wrap64_in _ (by omega)) (by rw [e1]; exact p1.symm) (by omega) (by omega) ht
end Go.Proofs.YtphmefhnffoafaaDoor

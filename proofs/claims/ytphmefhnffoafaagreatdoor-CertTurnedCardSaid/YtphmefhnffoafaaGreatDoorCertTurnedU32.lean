/- Contract of the document's Made. Printed by mkcertg.py. -/
import Derived.Test.YtphmefhnffoafaaGreatDoorCertTurnedU24
import Derived.Test.YtphmefhnffoafaaGreatDoorCertTurnedU21
set_option linter.unusedSimpArgs false
namespace Go.Proofs.YtphmefhnffoafaaGreatDoor
open Go.RowKit Go.Shelf
set_option linter.unusedVariables false
theorem ls_rpath_any {w : World} {A : Option Addr} {n c : Nat} {ls ds : List (List UInt8)} {i : Int} (h : LS w A n c ls) (hd : pathI ls i = ds) (hn : n ≤ 1000000) (hl : ∀ l ∈ ls, l.length ≤ 1000000) (ht : Tabs w) :
  Calls Tryz.prog 19 #[.slice A n c, .int .i64 i] w fun e w' => ∃ A' c', e = .returned (.slice A' ds.length c') ∧ OwnI w' w.heap.size A' ds.length c' ds ∧ Below w.heap.size w w' := by
 obtain ⟨ps, hp, hm, hc⟩ := h
 exact (rpath_any n n c A ps i ds w (Nat.le_refl _) (by rw [hm]; exact hd) hp hc hn (fun p hp => hl _ (by rw [← hm]; exact List.mem_map_of_mem hp)) ht)
def madeOK (cmd : List UInt8) (x : Ent) (i : Int) : Bool := nextOK noHdr true (leavesB cmd x i) x.shard x.epoch
def madeC (seed cmd : List UInt8) (x : Ent) (i : Int) : Cer := ⟨x, pathI (leavesB cmd x i) 1, nextH noHdr true (leavesB cmd x i) x.shard x.epoch, tagB (keyS seed x.shard) (putHB (nextH noHdr true (leavesB cmd x i) x.shard x.epoch))⟩
def madeR (seed cmd : List UInt8) (x : Ent) (i : Int) : Cer := if madeOK cmd x i = true then madeC seed cmd x i else noCer
theorem leavesB_le {cmd : List UInt8} {x : Ent} {i : Int} (hx : x.ok) (hc : cmd.length ≤ 1000) (hi : U64 i) : ∀ l ∈ leavesB cmd x i, l.length ≤ 1000 := by
 intro l hl
 unfold leavesB at hl
 split at hl
 ·rename_i h
  have h1 := putEB_len hx h.1
  have h2 := numB_le (n := i.toNat) (by omega)
  simp only [List.mem_cons, List.not_mem_nil, or_false] at hl
  rcases hl with rfl | rfl | rfl <;> omega
 ·simp at hl
theorem leavesB_n {cmd : List UInt8} {x : Ent} {i : Int} : (leavesB cmd x i).length ≤ 3 := by
 unfold leavesB; split <;> simp
theorem madeOK_ok {cmd : List UInt8} {x : Ent} {i : Int} (h : madeOK cmd x i = true) : okL x i = true ∧ rightH (nextH noHdr true (leavesB cmd x i) x.shard x.epoch) = true := by
 unfold madeOK nextOK at h
 simp only [Bool.and_eq_true, decide_eq_true_eq] at h
 refine ⟨?_, h.2⟩
 cases ho : okL x i with
 | true => rfl
 | false => have := leavesB_no (c := cmd) ho; rw [this] at h; simp at h
theorem nextH_ok {ls : List (List UInt8)} {s ep : Int} (hs : I64 s) (he : I64 ep) : (nextH noHdr true ls s ep).ok := by
 refine ⟨hs, by simp [I64, nextH], he, by simp [nextH, zeroD], rootB_len ls⟩
theorem madeC_ok {seed cmd : List UInt8} {x : Ent} {i : Int} (hx : x.ok) : (madeC seed cmd x i).ok := ⟨hx, pathI_32 _ 1, nextH_ok hx.2.1 hx.2.2.2.2.2, tagB_length _ _⟩
set_option maxRecDepth 100000 in
set_option maxHeartbeats 4000000 in
theorem rmade_any {seed cmd : List UInt8} {A : Option Addr} {n c : Nat} {A2 : Option Addr} {n2 c2 : Nat} {x : Ent} {i : Int} {ok : Bool} {y : Cer} (hok : madeOK cmd x i = ok) (hy : madeR seed cmd x i = y) (w : World) (hs : Sl w w.heap.size 1 A n (seed.map B)) (hn : n ≤ 1000) (hs2 : Sl w w.heap.size 1 A2 n2 (cmd.map B)) (hc2 : n2 ≤ c2) (hn2 : n2 ≤ 1000) (hx : x.ok) (hi : U64 i) (ht : Tabs w) :
  Calls Tryz.prog 6 #[.slice A n c, .slice A2 n2 c2, .agg (entV x).toArray, .int .u64 i] w fun e w' => ∃ A' n' c', e = .returned (.tuple #[.agg (certV (.slice A' n' c') y).toArray, .bool ok]) ∧ Ids w' A' n' c' y.path ∧ n' ≤ 1000000 ∧ Below w.heap.size w w' := by
 have HS := kp hs; have HT := kp ht; have HS2 := kp hs2
 have HB := kp (Below.refl w.heap.size w)
 have hcl : cmd.length = n2 := by have := hs2.len; simpa using this
 have HY0 := kp (show ok = false → y = noCer from fun k => by rw [← hy]; unfold madeR; rw [hok, if_neg (by simp [k])])
 have HY1 := kp (show ok = true → y = madeC seed cmd x i from fun k => by rw [← hy]; unfold madeR; rw [hok, if_pos k])
 have HRL := kp (fun w hs => rleaves_any A2 n2 c2 cmd x i w hs hc2 (by omega) hx hi)
 have HIN := kp (ent_at hx)
 have HRX := kp (fun A n c w hl hn ht => rnext_any noHdr true A n c (leavesB cmd x i) x.shard x.epoch w noHdr_ok hl hn (by have := @leavesB_n cmd x i; omega) (fun l hl => by have := leavesB_le hx (by omega) hi l hl; omega) hx.2.1 hx.2.2.2.2.2 ht)
 rw [show nextOK noHdr true (leavesB cmd x i) x.shard x.epoch = ok from hok] at HRX
 have HNB := kp (show ok = true → nextB noHdr true (leavesB cmd x i) x.shard x.epoch = (madeC seed cmd x i).h from fun k => by rw [← hok] at k; exact nextB_yes k)
 have HNK := kp (nextB_ok (p := noHdr) (first := true) (ls := leavesB cmd x i) (s := x.shard) (ep := x.epoch))
 have HRH := kp (show ok = true → rightH (madeC seed cmd x i).h = true from fun k => by rw [← hok] at k; exact (madeOK_ok k).2)
 have HP := kp (fun A n c w hl hn ht => ls_rpath_any (A := A) (n := n) (c := c) (i := 1) (w := w) hl (show pathI (leavesB cmd x i) 1 = (madeC seed cmd x i).path from rfl) hn (fun l hl => by have := leavesB_le hx (by omega) hi l hl; omega) ht)
 have HMO := madeC_ok (seed := seed) (cmd := cmd) (i := i) hx
 have HP32 := kp (show ∀ d ∈ (madeC seed cmd x i).path, d.length = 32 from HMO.2.1)
 have HPL := kp (show (madeC seed cmd x i).path.length ≤ 1000000 by have h1 := pathI_le (leavesB cmd x i) 1; have h2 := @leavesB_n cmd x i; show (pathI (leavesB cmd x i) 1).length ≤ _; omega)
 have HLN := kp (@leavesB_n cmd x i)
 have BT := kp (fun A n c => bt_cert HMO (A := A) (n := n) (c := c))
 have CL := kp (fun (A : Option Addr) (n c : Nat) => cert_cl (v := .slice A n c) rfl HMO)
 have HZ := kp (dig_map HMO.2.2.2)
 have HPH := kp (fun w h => rhput_any (madeC seed cmd x i).h w HMO.2.2.1 h)
 have HPHL := kp (fun h => putHB_len (h := (madeC seed cmd x i).h) HMO.2.2.1 h)
 have HSG := kp (show ok = true → ∃ k : Nat, x.shard = (k : Int) ∧ k ≤ 63 ∧ Dig ((madeC seed cmd x i).tag.map B) (tagB (tagB seed [UInt8.ofNat k]) (putHB (madeC seed cmd x i).h)) from fun k => by
  rw [← hok] at k
  have h1 := rightH_iff.1 (madeOK_ok k).2
  have h2 : (nextH noHdr true (leavesB cmd x i) x.shard x.epoch).shard = x.shard := rfl
  rw [h2] at h1
  refine ⟨x.shard.toNat, by omega, by omega, ?_, by rw [tagB_length]⟩
  rfl)
 have HDE := kp (ent_cl hx)
 have HMH := kp (show (hdrV (madeC seed cmd x i).h)[0]? = some (.int .i64 x.shard) from rfl)
 have HHC := kp (hdr_cl (nextB_ok (p := noHdr) (first := true) (ls := leavesB cmd x i) (s := x.shard) (ep := x.epoch)))
 have B0 := kp built_hdrE
 have BE := kp built_certE
 have CE := kp (cert_cl (v := .slice none 0 0) rfl noCer_ok)
 have ZC := kp zero_cert
 have LC := kp len_cert
 obtain ⟨ls, hls⟩ : ∃ q, q = leavesB cmd x i := ⟨_, rfl⟩
 rw [← hls] at HRL HRX HNB HNK HP HLN HHC
 obtain ⟨nb, hnb⟩ : ∃ q, q = nextB noHdr true ls x.shard x.epoch := ⟨_, rfl⟩
 rw [← hnb] at HRX HNB HNK HHC
 obtain ⟨mk, hmk⟩ : ∃ q, q = madeC seed cmd x i := ⟨_, rfl⟩
 have HM1 := kp (show mk.e = x by rw [hmk]; rfl)
 rw [← hmk] at HY1 HNB HRH HP HP32 HPL BT CL HZ HPH HPHL HSG HMH
 rw [HM1.out] at BT
 obtain ⟨ev, hev⟩ : ∃ v, v = entV x := ⟨_, rfl⟩
 obtain ⟨tv, htv⟩ : ∃ v, v = mk.tag.map B := ⟨_, rfl⟩
 obtain ⟨np, hnp⟩ : ∃ v, v = mk.path.length := ⟨_, rfl⟩
 obtain ⟨zc, hzc⟩ : ∃ v, v = certV (.slice none 0 0) noCer := ⟨_, rfl⟩
 obtain ⟨z0, hz0⟩ : ∃ v, v = hdrV noHdr := ⟨_, rfl⟩
 obtain ⟨bv, hbv⟩ : ∃ v, v = hdrV nb := ⟨_, rfl⟩
 obtain ⟨mv, hmv⟩ : ∃ v, v = hdrV mk.h := ⟨_, rfl⟩
 obtain ⟨sh, hsh⟩ : ∃ v, v = x.shard := ⟨_, rfl⟩
 obtain ⟨ep, hep⟩ : ∃ v, v = x.epoch := ⟨_, rfl⟩
 have HZC := kp hzc; have HNP := kp hnp
 have HBM := kp (show ok = true → bv = mv from fun k => by rw [hbv, hmv, HNB.out k])
 rw [← hev] at BT HDE HRL HIN ⊢
 rw [← htv] at BT HZ HSG
 rw [← hnp] at HP HPL
 rw [← hzc] at BE CE ZC LC
 rw [← hz0] at B0 HRX
 rw [← hbv] at HRX HHC
 rw [← hmv] at BT HPH HMH
 rw [← hsh] at HRX HSG HIN HMH
 rw [← hep] at HRX HIN
 clear hok hy hs hs2 ht hx hi hls hnb hmk hev htv hnp hzc hz0 hbv hmv hsh hep HM1 HMO hcl HNB
 go_enter Tryz.func6, Tryz.ntmps6
 go_wp2_with (first | (with_reducible refine wpl_box (o := ⟨some 6, _, _, _, _, _⟩) rfl rfl rfl ?_))
 intro w2_ hb2_ hb_ hsz2_
 have HX_ := kp (at_mk hb2_ HDE.out.len)
 clear hb2_ hsz2_
 replace HB := kp (HB.out.grow' hb_)
 replace HS := kp (HS.out.grow hb_)
 replace HS2 := kp (HS2.out.grow hb_)
 replace HT := kp (HT.out.grow hb_)
 have HXE := HX_
 clear hb_ HX_
 try clear w_
 rename World => w_
 go_wp2_with (first | (with_reducible refine wpl_alloc (o := ⟨some 8, _, _, _, _, _⟩) rfl rfl ZC.out ?_))
 intro w2_ hb2_ hb_ hsz2_
 have HC := kp (at_mk hb2_ LC.out)
 have HG := kp HB.out.size
 generalize hg_ : w_.heap.size = gc at HC HG ⊢
 clear hb2_ hsz2_ hg_
 have hb_ := hb_
 clear hb_
 replace HB := kp (HB.out.grow' hb_)
 replace HXE := kp (HXE.out.grow hb_)
 replace HS := kp (HS.out.grow hb_)
 replace HS2 := kp (HS2.out.grow hb_)
 replace HT := kp (HT.out.grow hb_)
 clear hb_
 try clear w_
 rename World => w_
 go_wp2_with (first | (with_reducible refine wpl_loadb (o := ⟨some 14, _, _, _, _, _⟩) rfl rfl row_entry HXE.out.blk rfl HXE.out.len ?_))
 refine (HRL.out _ HS2.out).mono ?_
 rintro e w2_ ⟨A3, n3, c3, rfl, hl_, hn_, hb_⟩
 have HL := kp hl_; have HN3 := kp hn_
 clear hl_ hn_ HRL HS2
 have hb_ := hb_
 clear hb_
 replace HB := kp (HB.out.grow' hb_)
 replace HXE := kp (HXE.out.grow hb_)
 replace HC := kp (HC.out.grow hb_)
 replace HS := kp (HS.out.grow hb_)
 replace HT := kp (HT.out.grow hb_)
 clear hb_
 try clear w_
 rename World => w_
 go_wp2_with (first | (with_reducible refine wpl_stop (o := ⟨some 18, _, _, _, _, _⟩) ?_))
 refine stop_go ?_
 refine wpl_build rfl rfl B0.out ?_
 have cs := HXE.out.blk.at_ HIN.out.2.1
 have ce := HXE.out.blk.at_ HIN.out.2.2.2.2
 go_wp2_with fail
 refine (HRX.out _ _ _ _ HL.out HN3.out HT.out).mono ?_
 rintro e w2_ ⟨rfl, hb_⟩
 clear cs ce HRX B0
 have hb_ := hb_
 clear hb_
 replace HB := kp (HB.out.grow' hb_)
 replace HXE := kp (HXE.out.grow hb_)
 replace HC := kp (HC.out.grow hb_)
 replace HS := kp (HS.out.grow hb_)
 replace HT := kp (HT.out.grow hb_)
 replace HL := kp (HL.out.grow hb_)
 clear hb_
 try clear w_
 rename World => w_
 go_wp2_with (first | (with_reducible refine wpl_alloc (o := ⟨some 11, _, _, _, _, _⟩) rfl rfl zero_header ?_))
 intro w1_ hb1_ hbw1_ hsz1_
 have HB1_ := kp (at_mk hb1_ len_header)
 have HBW1_ := kp hbw1_
 have HZ1_ := kp hsz1_
 clear hb1_ hbw1_ hsz1_
 go_wp2_with (first | (with_reducible refine wpl_storeb (o := ⟨none, .store _ _ _, _, _, _, _⟩) rfl rfl row_header HB1_.out.blk rfl rfl HB1_.out.len HHC.out.len HHC.out.one ?_))
 intro w2_ hb2_ hg2_ hsz2_
 have hb_ := var_grow HBW1_.out HZ1_.out hg2_
 have HX_ := kp (at_mk hb2_ HHC.out.len)
 clear hb2_ hg2_ hsz2_ HB1_ HBW1_ HZ1_
 replace HB := kp (HB.out.grow' hb_)
 replace HXE := kp (HXE.out.grow hb_)
 replace HC := kp (HC.out.grow hb_)
 replace HS := kp (HS.out.grow hb_)
 replace HT := kp (HT.out.grow hb_)
 replace HL := kp (HL.out.grow hb_)
 generalize hg_ : w_.heap.size = gh at HX_ ⊢
 clear hg_
 have HH := HX_
 clear hb_ HX_
 clear w1_
 try clear w_
 rename World => w_
 cases ok with
 | false =>
  go_wp2_with (first | (with_reducible refine wpl_stop (o := ⟨some 29, _, _, _, _, _⟩) ?_))
  refine stop_go ?_
  refine wpl_build rfl rfl BE.out ?_
  go_wp2_with (first | (with_reducible refine wpl_storeb (o := ⟨none, .store _ _ _, _, _, _, _⟩) rfl rfl row_cert HC.out.blk rfl rfl HC.out.len CE.out.len CE.out.one ?_))
  intro w2_ hb2_ hg2_ hsz2_
  replace HB := kp (put_below HB.out HG.out hg2_)
  replace HC := kp (at_mk hb2_ CE.out.len)
  clear hb2_ hg2_ hsz2_
  try clear w_
  rename World => w_
  go_wp2_with fail
  refine ret_cell2 rfl row_cert HC.out.blk rfl HC.out.len rfl rfl ?_
  have HYE := HY0.out (by first | trivial | rfl)
  refine ⟨none, 0, 0, ?_, ?_, by omega, HB.out⟩
  ·rw [HYE, ← HZC.out]; rfl
  ·rw [HYE]; exact Ids.none_ _
 | true =>
  have HYE := kp (HY1.out (by first | trivial | rfl))
  have hbm := HBM.out (by first | trivial | rfl)
  subst hbm
  obtain ⟨k, hk, hk63, hdg⟩ := HSG.out (by first | trivial | rfl)
  have HDG := kp hdg
  subst hk
  have HRR := kp (HRH.out (by first | trivial | rfl))
  have HPLH := kp (HPHL.out HRR.out)
  have HPP := kp (fun w => HPH.out w HRR.out)
  obtain ⟨nh, hnh⟩ : ∃ v, v = (putHB mk.h).length := ⟨_, rfl⟩
  rw [← hnh] at HPLH HPP
  obtain ⟨pb, hpb⟩ : ∃ v, v = putHB mk.h := ⟨_, rfl⟩
  rw [← hpb] at HPP HDG
  have HSGN := kp (fun A2 c2 w hs hs2 => trsign_any A A2 n c nh c2 seed pb k (by omega) HDG.out w hs hs2 (by omega) (by have := HPLH.out; omega))
  clear hdg hnh hpb HSG HBM HRH HPHL HPH HY0 HY1 HRR HDG
  have HL3 := kp (show n3 ≤ 1000000 by rw [HN3.out]; have := HLN.out; omega)
  try go_wp2_with fail
  repeat' (first | (with_reducible refine wp_plan (id := 5) Grow [1,0,4,1,0,0,1,1,4,4,0,3,0] (.get 0 (.get 1 (.get 3 (.get 4 (.get 5 (.get 6 (.get 7 (.act 2 (.act 8 (.act 9 (.get 10 (.act 11 (.get 12 .done))))))))))))) (by kernel_rfl) (by kernel_rfl) Grow.refl Grow.trans ?_) | go_values | go_skip | go_guarded | go_step | go_upon | go_back)
  intro w_ hd_
  have hb_ := hd_.grow
  replace HB := kp (HB.out.grow' hb_)
  replace HXE := kp (HXE.out.grow hb_)
  replace HC := kp (HC.out.grow hb_)
  replace HH := kp (HH.out.grow hb_)
  replace HS := kp (HS.out.grow hb_)
  replace HT := kp (HT.out.grow hb_)
  replace HL := kp (HL.out.grow hb_)
  clear hb_ hd_
  have HCL0 := kp HC.out.lt
  have cmh := HH.out.blk.at_ HMH.out
  repeat (first | (refine pl_loadb rfl rfl (by first | exact wanted_none rfl | (go_simp; done) | rfl) rfl row_entry HXE.out.blk (by first | rfl | (go_simp; done) | rfl) HXE.out.len (fun K hK => ?_); go_simp; refine hK _ _ ?_; clear hK K) | (refine pl_loadbnow rfl rfl (by first | exact wanted_none rfl | (go_simp; done) | rfl) rfl row_entry HXE.out.blk (by first | rfl | (go_simp; done) | rfl) HXE.out.len (fun K hK => ?_); go_simp; refine hK _ _ ?_; clear hK K) | (refine pl_loadb rfl rfl (by first | exact wanted_none rfl | (go_simp; done) | rfl) rfl row_header HH.out.blk (by first | rfl | (go_simp; done) | rfl) HH.out.len (fun K hK => ?_); go_simp; refine hK _ _ ?_; clear hK K) | (refine pl_loadbnow rfl rfl (by first | exact wanted_none rfl | (go_simp; done) | rfl) rfl row_header HH.out.blk (by first | rfl | (go_simp; done) | rfl) HH.out.len (fun K hK => ?_); go_simp; refine hK _ _ ?_; clear hK K) | (refine pl_calm rfl rfl (by first | exact wanted_none rfl | (go_simp; done) | rfl) (fun w_ => by first | (go_simp; rfl) | (go_simp; done) | rfl) (fun K hK => ?_); go_simp; refine hK _ _ ?_; clear hK K) | (refine pl_skip rfl (by first | (go_simp; done) | rfl) (fun K hK => ?_); go_simp; refine hK _ _ ?_; clear hK K) | (refine pl_skipa rfl (by first | (go_simp; done) | rfl) (fun K hK => ?_); go_simp; refine hK _ _ ?_; clear hK K) | (refine pl_load rfl rfl (by first | exact wanted_none rfl | (go_simp; done) | rfl) rfl (by first | rfl | (go_simp; rfl)) (by kernel_rfl) (by first | exact cmh) (fun K hK => ?_); go_simp; refine hK _ _ ?_; clear hK K) | (refine pl_loadnow rfl rfl (by first | exact wanted_none rfl | (go_simp; done) | rfl) rfl (by first | rfl | (go_simp; rfl)) (by kernel_rfl) (by first | exact cmh) (fun K hK => ?_); go_simp; refine hK _ _ ?_; clear hK K))
  clear cmh
  refine pl_act rfl (by first | exact wanted_none rfl | (go_simp; done) | rfl) (fun K hK => ?_)
  go_wp2_with fail
  refine (HP.out _ _ _ _ HL.out HL3.out HT.out).mono ?_
  rintro e w_ ⟨A5, c5, rfl, hi_, hb_⟩
  go_wp2_with fail
  refine hK _ _ (fun _ => hb_) ?_
  clear hK K
  replace HB := kp (HB.out.grow' hb_)
  replace HXE := kp (HXE.out.grow hb_)
  replace HC := kp (HC.out.grow hb_)
  replace HH := kp (HH.out.grow hb_)
  replace HS := kp (HS.out.grow hb_)
  clear hb_
  have HO := kp hi_
  have HOC := kp (show ∀ k, A5.map Addr.block = some k → gc < k from fun k hk => by have h1 := own_from hi_ k hk; have h2 := HCL0.out; omega)
  have HI := kp (show Ids w_ A5 np c5 mk.path from Ids.own hi_ HNP.out.symm HP32.out (own_cap hi_))
  clear hi_ HO
  refine pl_act rfl (by first | exact wanted_none rfl | (go_simp; done) | rfl) (fun K hK => ?_)
  go_wp2_with fail
  refine (HPP.out _).mono ?_
  rintro e w_ ⟨A7, c7, rfl, hs7_, hc7_, hb_⟩
  go_wp2_with fail
  refine hK _ _ (fun _ => hb_) ?_
  clear hK K
  replace HB := kp (HB.out.grow' hb_)
  replace HC := kp (HC.out.grow hb_)
  replace HS := kp (HS.out.grow hb_)
  replace HI := kp (HI.out.grow hb_)
  clear hb_
  have HS7 := kp hs7_
  clear hs7_ hc7_
  refine pl_act rfl (by first | exact wanted_none rfl | (go_simp; done) | rfl) (fun K hK => ?_)
  go_wp2_with fail
  refine (HSGN.out _ _ _ HS.out HS7.out).mono ?_
  rintro e w_ ⟨rfl, hb_⟩
  go_wp2_with fail
  refine hK _ _ (fun _ => hb_) ?_
  clear hK K
  replace HB := kp (HB.out.grow' hb_)
  replace HC := kp (HC.out.grow hb_)
  replace HI := kp (HI.out.grow hb_)
  clear hb_
  have BT5 := kp (BT.out A5 np c5); have CL5 := kp (CL.out A5 np c5)
  obtain ⟨cv, hcv⟩ : ∃ v, v = certV (.slice A5 np c5) mk := ⟨_, rfl⟩
  have HCV := kp hcv
  rw [← hcv] at BT5 CL5
  clear BT CL hcv
  refine pl_calm rfl rfl (by exact wanted_none rfl) (fun w_ => by exact exec_build rfl BT5.out w_) (fun K hK => ?_)
  go_simp
  refine hK _ _ ?_
  clear hK K
  refine pl_act rfl (by first | exact wanted_none rfl | (go_simp; done) | rfl) (fun K hK => ?_)
  show wpList _ _ _ [⟨none, .store _ _ _, _, _, _, _⟩] _ _
  go_wp2_with (first | (with_reducible refine wpl_storeb (o := ⟨none, .store _ _ _, _, _, _, _⟩) rfl rfl row_cert HC.out.blk rfl rfl HC.out.len CL5.out.len CL5.out.one ?_))
  intro w4_ hb3_ hg3_ hsz3_
  have HX_ := kp (at_mk hb3_ CL5.out.len)
  have HI_ := kp (HI.out.off hg3_ HOC.out)
  have HB_ := kp (put_below HB.out HG.out hg3_)
  clear hb3_ hg3_ hsz3_ HC HI HB
  go_wp2_with fail
  refine hK _ _ (fun h => by cases h) ?_
  clear hK K
  repeat ((first | refine pl_calm rfl rfl (by first | exact wanted_none rfl | (go_simp; done) | rfl) (fun w_ => by first | (go_simp; rfl) | (go_simp; done) | rfl) (fun K hK => ?_) | refine pl_skip rfl (by first | (go_simp; done) | rfl) (fun K hK => ?_) | refine pl_skipa rfl (by first | (go_simp; done) | rfl) (fun K hK => ?_)); go_simp; refine hK _ _ ?_; clear hK K)
  refine pl_done ?_
  go_wp2_with fail
  refine ret_cell2 rfl row_cert HX_.out.blk rfl HX_.out.len rfl rfl ?_
  refine ⟨A5, np, c5, ?_, ?_, HPL.out, HB_.out⟩
  ·rw [HYE.out, ← HCV.out]; rfl
  ·rw [HYE.out]; exact HI_.out
end Go.Proofs.YtphmefhnffoafaaGreatDoor

/- Contract of the document's Made. Printed by mkcertg.py. -/
import Derived.Test.YtiijepimkgaccaaGreatCommandLongRe39
set_option linter.unusedSimpArgs false
set_option linter.unusedVariables false
set_option maxRecDepth 100000
set_option maxHeartbeats 16000000
namespace Go.Proofs.YtiijepimkgaccaaGreat
open Go.RowKit Go.Shelf
theorem ls_rpath_any {w : World} {A : Option Addr} {n c : Nat} {ls ds : List (List UInt8)} {i : Int} (h : LS w A n c ls) (hd : pathI ls i = ds) (hn : n ≤ 1000000) (hl : ∀ l ∈ ls, l.length ≤ 1000000) (ht : Tabs w) :
  Calls Tryz.prog 15 #[.slice A n c, .int .i64 i] w fun e w' => ∃ A' c', e = .returned (.slice A' ds.length c') ∧ OwnI w' w.heap.size A' ds.length c' ds ∧ Below w.heap.size w w' := by
 obtain ⟨ps, hp, hm, hc⟩ := h;exact (rpath_any n n c A ps i ds w (Nat.le_refl _) (by rw [hm]; exact hd) hp hc hn (fun p hp => hl _ (by rw [← hm]; exact List.mem_map_of_mem hp)) ht)
def madeOK (cmd : List UInt8) (x : Ent) (i : Int) : Bool := nextOK noHdr true (leavesB cmd x i) x.shard x.epoch
def madeC (seed cmd : List UInt8) (x : Ent) (i : Int) : Cer := ⟨x, pathI (leavesB cmd x i) 1, nextH noHdr true (leavesB cmd x i) x.shard x.epoch, tagB (keyS seed x.shard) (putHB (nextH noHdr true (leavesB cmd x i) x.shard x.epoch))⟩
def madeR (seed cmd : List UInt8) (x : Ent) (i : Int) : Cer := if madeOK cmd x i = true then madeC seed cmd x i else noCer
theorem leavesB_le {cmd : List UInt8} {x : Ent} {i : Int} (hx : x.ok) (hc : cmd.length ≤ 1000) (hi : U64 i) : ∀ l ∈ leavesB cmd x i, l.length ≤ 1000 := by
 intro l hl;unfold leavesB at hl;split at hl
 ·rename_i h;have h1 := putEB_len hx h.1;have h2 := numB_le (n := i.toNat) (by omega);simp only [List.mem_cons, List.not_mem_nil, or_false] at hl;rcases hl with rfl | rfl | rfl <;> omega
 ·simp at hl
theorem leavesB_n {cmd : List UInt8} {x : Ent} {i : Int} : (leavesB cmd x i).length ≤ 3 := by
 unfold leavesB; split <;> simp
theorem madeOK_ok {cmd : List UInt8} {x : Ent} {i : Int} (h : madeOK cmd x i = true) : okL x i = true ∧ rightH (nextH noHdr true (leavesB cmd x i) x.shard x.epoch) = true := by
 unfold madeOK nextOK at h;simp only [Bool.and_eq_true, decide_eq_true_eq] at h;refine ⟨?_, h.2⟩;cases ho : okL x i with
 | true => rfl
 | false => have := leavesB_no (c := cmd) ho; rw [this] at h; simp at h
theorem nextH_ok {ls : List (List UInt8)} {s ep : Int} (hs : I64 s) (he : I64 ep) : (nextH noHdr true ls s ep).ok := by
 refine ⟨hs, by simp [I64, nextH], he, by simp [nextH, zeroD], rootB_len ls⟩
theorem madeC_ok {seed cmd : List UInt8} {x : Ent} {i : Int} (hx : x.ok) : (madeC seed cmd x i).ok := ⟨hx, pathI_32 _ 1, nextH_ok hx.2.1 hx.2.2.2.2.2, tagB_length _ _⟩
theorem rmade_any {seed cmd : List UInt8} {A : Option Addr} {n c : Nat} {A2 : Option Addr} {n2 c2 : Nat} {x : Ent} {i : Int} {ok : Bool} {y : Cer} (hok : madeOK cmd x i = ok) (hy : madeR seed cmd x i = y) (w : World) (hs : Sl w w.heap.size 1 A n (seed.map B)) (hn : n ≤ 1000) (hs2 : Sl w w.heap.size 1 A2 n2 (cmd.map B)) (hc2 : n2 ≤ c2) (hn2 : n2 ≤ 1000) (hx : x.ok) (hi : U64 i) (ht : Tabs w) :
  Calls Tryz.prog 6 #[.slice A n c, .slice A2 n2 c2, .agg (entV x).toArray, .int .u64 i] w fun e w' => ∃ A' n' c', e = .returned (.tuple #[.agg (certV (.slice A' n' c') y).toArray, .bool ok]) ∧ Ids w' A' n' c' y.path ∧ n' ≤ 1000000 ∧ Below w.heap.size w w' := by
 have HS := kp hs; have HT := kp ht; have HS2 := kp hs2;have HB := kp (Below.refl w.heap.size w);have hcl : cmd.length = n2 := by have := hs2.len; simpa using this
 have HY0 := kq (ok = false → y = noCer) (fun k => by rw [← hy]; unfold madeR; rw [hok, if_neg (by simp [k])]);have HY1 := kq (ok = true → y = madeC seed cmd x i) (fun k => by rw [← hy]; unfold madeR; rw [hok, if_pos k]);have HRL := kp (fun w hs => rleaves_any A2 n2 c2 cmd x i w hs hc2 (by omega) hx hi);have HIN := kp (ent_at hx);have HRX := kp (fun A n c w hl hn ht => rnext_any noHdr true A n c (leavesB cmd x i) x.shard x.epoch w noHdr_ok hl hn (by have := @leavesB_n cmd x i; omega) (fun l hl => by have := leavesB_le hx (by omega) hi l hl; omega) hx.2.1 hx.2.2.2.2.2 ht);rw [show nextOK noHdr true (leavesB cmd x i) x.shard x.epoch = ok from hok] at HRX;have HNB := kq (ok = true → nextB noHdr true (leavesB cmd x i) x.shard x.epoch = (madeC seed cmd x i).h) (fun k => by rw [← hok] at k; exact nextB_yes k);have HNK := kp (nextB_ok (p := noHdr) (first := true) (ls := leavesB cmd x i) (s := x.shard) (ep := x.epoch));have HRH := kq (ok = true → rightH (madeC seed cmd x i).h = true) (fun k => by rw [← hok] at k; exact (madeOK_ok k).2);have HP := kp (fun A n c w hl hn ht => ls_rpath_any (A := A) (n := n) (c := c) (i := 1) (w := w) hl (show pathI (leavesB cmd x i) 1 = (madeC seed cmd x i).path from rfl) hn (fun l hl => by have := leavesB_le hx (by omega) hi l hl; omega) ht);have HMO := madeC_ok (seed := seed) (cmd := cmd) (i := i) hx;have HP32 := kq (∀ d ∈ (madeC seed cmd x i).path, d.length = 32) HMO.2.1;have HPL := kq ((madeC seed cmd x i).path.length ≤ 1000000) (by have h1 := pathI_le (leavesB cmd x i) 1; have h2 := @leavesB_n cmd x i; show (pathI (leavesB cmd x i) 1).length ≤ _; omega);have HLN := kp (@leavesB_n cmd x i);have BT := kp (fun A n c => bt_cert HMO (A := A) (n := n) (c := c));have CL := kp (fun (A : Option Addr) (n c : Nat) => cert_cl (v := .slice A n c) rfl HMO);have HZ := kp (dig_map HMO.2.2.2);have HPH := kp (fun w h => rhput_any (madeC seed cmd x i).h w HMO.2.2.1 h);have HPHL := kp (fun h => putHB_len (h := (madeC seed cmd x i).h) HMO.2.2.1 h)
 have HSG := kp (show ok = true → ∃ k : Nat, x.shard = (k : Int) ∧ k ≤ 63 ∧ Dig ((madeC seed cmd x i).tag.map B) (tagB (tagB seed [UInt8.ofNat k]) (putHB (madeC seed cmd x i).h)) from fun k => by
  rw [← hok] at k;have h1 := rightH_iff.1 (madeOK_ok k).2;have h2 : (nextH noHdr true (leavesB cmd x i) x.shard x.epoch).shard = x.shard := rfl;rw [h2] at h1;refine ⟨x.shard.toNat, by omega, by omega, ?_, by rw [tagB_length]⟩
  rfl)
 have HDE := kp (ent_cl hx);have HMH := kq ((hdrV (madeC seed cmd x i).h)[0]? = some (.int .i64 x.shard)) rfl;have HHC := kp (hdr_cl (nextB_ok (p := noHdr) (first := true) (ls := leavesB cmd x i) (s := x.shard) (ep := x.epoch)));have B0 := kp built_hdrE;have BE := kp built_certE;have CE := kp (cert_cl (v := .slice none 0 0) rfl noCer_ok);have ZC := kp zero_cert;have LC := kp len_cert;obtain ⟨ls, hls⟩ := xe (leavesB cmd x i);rw [← hls] at HRL HRX HNB HNK HP HLN HHC;obtain ⟨nb, hnb⟩ := xe (nextB noHdr true ls x.shard x.epoch);rw [← hnb] at HRX HNB HNK HHC;obtain ⟨mk, hmk⟩ := xe (madeC seed cmd x i);have HM1 := kq (mk.e = x) (by rw [hmk]; rfl);rw [← hmk] at HY1 HNB HRH HP HP32 HPL BT CL HZ HPH HPHL HSG HMH;rw [HM1.o] at BT;obtain ⟨ev, hev⟩ := xe (entV x);obtain ⟨tv, htv⟩ := xe (mk.tag.map B);obtain ⟨np, hnp⟩ := xe mk.path.length;obtain ⟨zc, hzc⟩ := xe (certV (.slice none 0 0) noCer);obtain ⟨z0, hz0⟩ := xe (hdrV noHdr);obtain ⟨bv, hbv⟩ := xe (hdrV nb);obtain ⟨mv, hmv⟩ := xe (hdrV mk.h);obtain ⟨sh, hsh⟩ := xe x.shard;obtain ⟨ep, hep⟩ := xe x.epoch;have HZC := kp hzc; have HNP := kp hnp;have HBM := kq (ok = true → bv = mv) (fun k => by rw [hbv, hmv, HNB.o k]);rw [← hev] at BT HDE HRL HIN ⊢;rw [← htv] at BT HZ HSG;rw [← hnp] at HP HPL;rw [← hzc] at BE CE ZC LC;rw [← hz0] at B0 HRX;rw [← hbv] at HRX HHC;rw [← hmv] at BT HPH HMH;rw [← hsh] at HRX HSG HIN HMH;rw [← hep] at HRX HIN;clear hok hy hs hs2 ht hx hi hls hnb hmk hev htv hnp hzc hz0 hbv hmv hsh hep HM1 HMO hcl HNB
 go_enter Tryz.func6, Tryz.ntmps6
 go_wp2_with (with_reducible refine wbx 6 ?_);intro v_ b_ y_ hsz2_;have HX_ := kp (at_mk b_ HDE.o.len);clear b_ hsz2_;replace HB := kp (HB.o.grow' y_);replace HS := kp (HS.o.grow y_);replace HS2 := kp (HS2.o.grow y_);replace HT := kp (HT.o.grow y_);have HXE := HX_;clear y_ HX_;try clear w_
 rename World => w_;go_wp2_with (with_reducible refine wal 8 ZC.o ?_);intro v_ b_ y_ hsz2_;have HC := kp (at_mk b_ LC.o);have HG := kp HB.o.size;generalize hg_ : w_.heap.size = gc at HC HG ⊢;clear b_ hsz2_ hg_;have y_ := y_;clear y_;replace HB := kp (HB.o.grow' y_);replace HXE := kp (HXE.o.grow y_);replace HS := kp (HS.o.grow y_);replace HS2 := kp (HS2.o.grow y_);replace HT := kp (HT.o.grow y_);clear y_;try clear w_
 rename World => w_;go_wp2_with (with_reducible refine wlb 14 row_entry HXE.o.blk HXE.o.len ?_);refine (HRL.o _ HS2.o).mono ?_;rintro e v_ ⟨A3, n3, c3, rfl, hl_, hn_, y_⟩;have HL := kp hl_; have HN3 := kp hn_;clear hl_ hn_ HRL HS2;have y_ := y_;clear y_;replace HB := kp (HB.o.grow' y_);replace HXE := kp (HXE.o.grow y_);replace HC := kp (HC.o.grow y_);replace HS := kp (HS.o.grow y_);replace HT := kp (HT.o.grow y_);clear y_;try clear w_
 rename World => w_;go_wp2_with (with_reducible refine wst 18 ?_);refine stop_go ?_;refine wpl_build rfl rfl B0.o ?_;have cs := HXE.o.blk.at_ HIN.o.2.1;have ce := HXE.o.blk.at_ HIN.o.2.2.2.2;go_wp2_with fail;refine (HRX.o _ _ _ _ HL.o HN3.o HT.o).mono ?_;rintro e v_ ⟨rfl, y_⟩;clear cs ce HRX B0;have y_ := y_;clear y_;replace HB := kp (HB.o.grow' y_);replace HXE := kp (HXE.o.grow y_);replace HC := kp (HC.o.grow y_);replace HS := kp (HS.o.grow y_);replace HT := kp (HT.o.grow y_);replace HL := kp (HL.o.grow y_);clear y_;try clear w_
 rename World => w_;go_wp2_with (with_reducible refine wal 11 zero_header ?_);intro w1_ hb1_ hbw1_ hsz1_;have HB1_ := kp (at_mk hb1_ len_header);have HBW1_ := kp hbw1_;have HZ1_ := kp hsz1_;clear hb1_ hbw1_ hsz1_;go_wp2_with (with_reducible refine wsb row_header HB1_.o.blk HB1_.o.len HHC.o.len HHC.o.one ?_);intro v_ b_ g_ hsz2_;have y_ := var_grow HBW1_.o HZ1_.o g_;have HX_ := kp (at_mk b_ HHC.o.len);clear b_ g_ hsz2_ HB1_ HBW1_ HZ1_;replace HB := kp (HB.o.grow' y_);replace HXE := kp (HXE.o.grow y_);replace HC := kp (HC.o.grow y_);replace HS := kp (HS.o.grow y_);replace HT := kp (HT.o.grow y_);replace HL := kp (HL.o.grow y_);generalize hg_ : w_.heap.size = gh at HX_ ⊢;clear hg_;have HH := HX_;clear y_ HX_;clear w1_;try clear w_
 rename World => w_;cases ok with
 | false =>
  go_wp2_with (with_reducible refine wst 29 ?_);refine stop_go ?_;refine wpl_build rfl rfl BE.o ?_;go_wp2_with (with_reducible refine wsb row_cert HC.o.blk HC.o.len CE.o.len CE.o.one ?_);intro v_ b_ g_ hsz2_;replace HB := kp (put_below HB.o HG.o g_);replace HC := kp (at_mk b_ CE.o.len);clear b_ g_ hsz2_;try clear w_
  rename World => w_;go_wp2_with fail;refine ret_cell2 rfl row_cert HC.o.blk rfl HC.o.len rfl rfl ?_;have HYE := HY0.o (by first | trivial | rfl);refine ⟨none, 0, 0, ?_, ?_, by omega, HB.o⟩
  ·rw [HYE, ← HZC.o]; rfl
  ·rw [HYE]; exact Ids.none_ _
 | true =>
  have HYE := kp (HY1.o (by first | trivial | rfl));have hbm := HBM.o (by first | trivial | rfl);subst hbm;obtain ⟨k, hk, hk63, hdg⟩ := HSG.o (by first | trivial | rfl);have HDG := kp hdg;subst hk;have HRR := kp (HRH.o (by first | trivial | rfl));have HPLH := kp (HPHL.o HRR.o);have HPP := kp (fun w => HPH.o w HRR.o);obtain ⟨nh, hnh⟩ := xe ((putHB mk.h).length);rw [← hnh] at HPLH HPP;obtain ⟨pb, hpb⟩ := xe (putHB mk.h);rw [← hpb] at HPP HDG;have HSGN := kp (fun A2 c2 w hs hs2 => trsign_any A A2 n c nh c2 seed pb k (by omega) HDG.o w hs hs2 (by omega) (by have := HPLH.o; omega));clear hdg hnh hpb HSG HBM HRH HPHL HPH HY0 HY1 HRR HDG;have HL3 := kq (n3 ≤ 1000000) (by rw [HN3.o]; have := HLN.o; omega);try go_wp2_with fail
  repeat' (first | (with_reducible refine wpp (id := 5) Grow [1,0,4,1,0,0,1,1,4,4,0,3,0] (.get 0 (.get 1 (.get 3 (.get 4 (.get 5 (.get 6 (.get 7 (.act 2 (.act 8 (.act 9 (.get 10 (.act 11 (.get 12 .done))))))))))))) Grow.refl Grow.trans ?_) | go_values | go_skip | go_guarded | go_step | go_upon | go_back)
  intro w_ hd_;have y_ := hd_.grow;replace HB := kp (HB.o.grow' y_);replace HXE := kp (HXE.o.grow y_);replace HC := kp (HC.o.grow y_);replace HH := kp (HH.o.grow y_);replace HS := kp (HS.o.grow y_);replace HT := kp (HT.o.grow y_);replace HL := kp (HL.o.grow y_);clear y_ hd_;have HCL0 := kp HC.o.lt;have cmh := HH.o.blk.at_ HMH.o;repeat (first | (refine pl_loadb rfl rfl (by first | exact wanted_none rfl | (go_simp; done) | rfl) rfl row_entry HXE.o.blk (by first | rfl | (go_simp; done) | rfl) HXE.o.len (fun K hK => ?_); go_simp; refine hK _ _ ?_; clear hK K) | (refine pl_loadbnow rfl rfl (by first | exact wanted_none rfl | (go_simp; done) | rfl) rfl row_entry HXE.o.blk (by first | rfl | (go_simp; done) | rfl) HXE.o.len (fun K hK => ?_); go_simp; refine hK _ _ ?_; clear hK K) | (refine pl_loadb rfl rfl (by first | exact wanted_none rfl | (go_simp; done) | rfl) rfl row_header HH.o.blk (by first | rfl | (go_simp; done) | rfl) HH.o.len (fun K hK => ?_); go_simp; refine hK _ _ ?_; clear hK K) | (refine pl_loadbnow rfl rfl (by first | exact wanted_none rfl | (go_simp; done) | rfl) rfl row_header HH.o.blk (by first | rfl | (go_simp; done) | rfl) HH.o.len (fun K hK => ?_); go_simp; refine hK _ _ ?_; clear hK K) | (refine plc (fun K hK => ?_); go_simp; refine hK _ _ ?_; clear hK K) | (refine pls (fun K hK => ?_); go_simp; refine hK _ _ ?_; clear hK K) | (refine psa (fun K hK => ?_); go_simp; refine hK _ _ ?_; clear hK K) | (refine pl_load rfl rfl (by first | exact wanted_none rfl | (go_simp; done) | rfl) rfl (by first | rfl | (go_simp; rfl)) (by kernel_rfl) (by first | exact cmh) (fun K hK => ?_); go_simp; refine hK _ _ ?_; clear hK K) | (refine pl_loadnow rfl rfl (by first | exact wanted_none rfl | (go_simp; done) | rfl) rfl (by first | rfl | (go_simp; rfl)) (by kernel_rfl) (by first | exact cmh) (fun K hK => ?_); go_simp; refine hK _ _ ?_; clear hK K))
  clear cmh;refine pl_act rfl (by first | exact wanted_none rfl | (go_simp; done) | rfl) (fun K hK => ?_);go_wp2_with fail;refine (HP.o _ _ _ _ HL.o HL3.o HT.o).mono ?_;rintro e w_ ⟨A5, c5, rfl, hi_, y_⟩;go_wp2_with fail;refine hK _ _ (fun _ => y_) ?_;clear hK K;replace HB := kp (HB.o.grow' y_);replace HXE := kp (HXE.o.grow y_);replace HC := kp (HC.o.grow y_);replace HH := kp (HH.o.grow y_);replace HS := kp (HS.o.grow y_);clear y_;have HO := kp hi_;have HOC := kq (∀ k, A5.map Addr.block = some k → gc < k) (fun k hk => by have h1 := own_from hi_ k hk; have h2 := HCL0.o; omega);have HI := kq (Ids w_ A5 np c5 mk.path) (Ids.own hi_ HNP.o.symm HP32.o (own_cap hi_));clear hi_ HO;refine pl_act rfl (by first | exact wanted_none rfl | (go_simp; done) | rfl) (fun K hK => ?_);go_wp2_with fail;refine (HPP.o _).mono ?_;rintro e w_ ⟨A7, c7, rfl, hs7_, hc7_, y_⟩;go_wp2_with fail;refine hK _ _ (fun _ => y_) ?_;clear hK K;replace HB := kp (HB.o.grow' y_);replace HC := kp (HC.o.grow y_);replace HS := kp (HS.o.grow y_);replace HI := kp (HI.o.grow y_);clear y_;have HS7 := kp hs7_;clear hs7_ hc7_;refine pl_act rfl (by first | exact wanted_none rfl | (go_simp; done) | rfl) (fun K hK => ?_);go_wp2_with fail;refine (HSGN.o _ _ _ HS.o HS7.o).mono ?_;rintro e w_ ⟨rfl, y_⟩;go_wp2_with fail;refine hK _ _ (fun _ => y_) ?_;clear hK K;replace HB := kp (HB.o.grow' y_);replace HC := kp (HC.o.grow y_);replace HI := kp (HI.o.grow y_);clear y_;have BT5 := kp (BT.o A5 np c5); have CL5 := kp (CL.o A5 np c5);obtain ⟨cv, hcv⟩ := xe (certV (.slice A5 np c5) mk);have HCV := kp hcv;rw [← hcv] at BT5 CL5;clear BT CL hcv;refine pl_calm rfl rfl (by exact wanted_none rfl) (fun w_ => by exact exec_build rfl BT5.o w_) (fun K hK => ?_);go_simp;refine hK _ _ ?_;clear hK K;refine pl_act rfl (by first | exact wanted_none rfl | (go_simp; done) | rfl) (fun K hK => ?_);show wpList _ _ _ [⟨none, .store _ _ _, _, _, _, _⟩] _ _
  go_wp2_with (with_reducible refine wsb row_cert HC.o.blk HC.o.len CL5.o.len CL5.o.one ?_);intro w4_ hb3_ hg3_ hsz3_;have HX_ := kp (at_mk hb3_ CL5.o.len);have HI_ := kp (HI.o.off hg3_ HOC.o);have HB_ := kp (put_below HB.o HG.o hg3_);clear hb3_ hg3_ hsz3_ HC HI HB;go_wp2_with fail;refine hK _ _ (fun h => by cases h) ?_;clear hK K;repeat ((first | refine plc (fun K hK => ?_) | refine pls (fun K hK => ?_) | refine psa (fun K hK => ?_)); go_simp; refine hK _ _ ?_; clear hK K)
  refine pl_done ?_;go_wp2_with fail;refine ret_cell2 rfl row_cert HX_.o.blk rfl HX_.o.len rfl rfl ?_;refine ⟨A5, np, c5, ?_, ?_, HPL.o, HB_.o⟩
  ·rw [HYE.o, ← HCV.o]; rfl
  ·rw [HYE.o]; exact HI_.o
theorem rtcheck_far {A : Option Addr} {n c : Nat} {A2 : Option Addr} {n2 c2 : Nat} {fee ex : Int} (w : World) (h : 16 < n ∨ 16 < n2) :
  Calls Tryz.prog 4 #[.agg (txV A n c A2 n2 c2 fee ex).toArray] w fun e w' => e = .returned (.int .i64 4) ∧ Grow w w' := by
 have HTC := kp (txV_cl (A := A) (n := n) (c := c) (A2 := A2) (n2 := n2) (c2 := c2) (fee := fee) (ex := ex));have HT0 := kq ((txV A n c A2 n2 c2 fee ex)[0]? = some (.slice A n c)) rfl;have HT1 := kq ((txV A n c A2 n2 c2 fee ex)[1]? = some (.slice A2 n2 c2)) rfl;obtain ⟨tv, htv⟩ := xe (txV A n c A2 n2 c2 fee ex);rw [← htv] at HTC HT0 HT1 ⊢;obtain ⟨w_, hw⟩ := xe w;have HB := kq (Below w.heap.size w w_) (by rw [hw]; exact Below.refl _ _)
 suffices H : Calls Tryz.prog 4 #[.agg tv.toArray] w_ fun e w' => e = .returned (.int .i64 4) ∧ Grow w w' by rw [hw] at H; exact H
 clear hw htv
 go_enter Tryz.func4, Tryz.ntmps4
 go_wp2_with (with_reducible refine wbx 1 ?_);intro v_ b_ y_ hsz2_;have HX_ := kp (at_mk b_ HTC.o.len);clear b_ hsz2_;have HG_ := kp HB.o.size;replace HB := kp (HB.o.grow' y_);generalize hg_ : w_.heap.size = g1 at HX_ HG_ ⊢;clear hg_;have HX_g := HG_;clear HG_;have HX := HX_;clear y_ HX_;try clear w_
 rename World => w_;have c0 := HX.o.blk.at_ HT0.o;have c1 := HX.o.blk.at_ HT1.o;by_cases h1 : 16 < n
 ·have d1 : decide ((n : Int) < 1) = false := by simp; omega
  have d2 : decide ((16 : Int) < (n : Int)) = true := by simp; omega
  clear h h1;go_wp2_with fail;go_ret
  exact ⟨rfl, HB.o⟩
 ·have h2 : 16 < n2 := by omega
  have d2 : decide ((16 : Int) < (n : Int)) = false := by simp; omega
  have d3 : decide ((n2 : Int) < 1) = false := by simp; omega
  have d4 : decide ((16 : Int) < (n2 : Int)) = true := by simp; omega
  obtain ⟨q1, hq1⟩ : ∃ q, decide ((n : Int) < 1) = q := ⟨_, rfl⟩;clear h h1 h2;cases q1 with
  | true =>
   go_wp2_with fail;go_ret
   exact ⟨rfl, HB.o⟩
  | false =>
   go_wp2_with fail;go_ret
   exact ⟨rfl, HB.o⟩
theorem cmread_long {A : Option Addr} {n c : Nat} (w : World) (hl : 8192 < n) : Calls Tryz.prog 9 #[.slice A n c] w fun e w' => e = .returned (.tuple #[.agg (noCW.vs noCmd).toArray, .int .i64 4]) ∧ Grow w w' := by
 have HCZ := kp (vs_cl (q := noCW) noCmd_ok);have BC := kp built_cmd0;have ZC := kp zero_cmd;obtain ⟨zc, hzc⟩ := xe (noCW.vs noCmd);rw [← hzc] at HCZ BC ZC ⊢;obtain ⟨w_, hw⟩ := xe w;have HB := kq (Below w.heap.size w w_) (by rw [hw]; exact Below.refl _ _)
 suffices H : Calls Tryz.prog 9 #[.slice A n c] w_ fun e w' => e = .returned (.tuple #[.agg zc.toArray, .int .i64 4]) ∧ Grow w w' by rw [hw] at H; exact H
 clear hw hzc
 go_enter Tryz.func9, Tryz.ntmps9
 go_wp2_with (with_reducible refine wal 2 ZC.o ?_);intro v_ b_ y_ hsz2_;have HV := kp (at_mk b_ HCZ.o.len);have HVG := kp HB.o.size;generalize hg_ : w_.heap.size = g2 at HV HVG ⊢;clear b_ hsz2_ hg_;have y_ := y_;clear y_;replace HB := kp (HB.o.grow' y_);clear y_;try clear w_
 rename World => w_;have z1 : ((8192 : Int) < (n : Int)) = True := eq_true (by omega);clear hl;go_wp2_with (with_reducible refine wst 13 ?_);refine stop_go ?_;refine wpl_build rfl rfl BC.o ?_;go_wp2_with (with_reducible refine wsb row_cmd HV.o.blk HV.o.len HCZ.o.len HCZ.o.one ?_);intro v_ b_ g_ hsz2_;have HV_ := kp b_;have HB_ := kp (put_below HB.o HVG.o g_);clear b_ g_ hsz2_;go_wp2_with fail;refine ret_cell_tmp rfl row_cmd HV_.o rfl HCZ.o.len rfl rfl ?_;exact ⟨rfl, HB_.o⟩
def entLg (i : Nat) : Ent := ⟨1, 0, List.replicate 32 0, 0, 0, (i : Int)⟩
theorem entLg_ok {i : Nat} (hi : i ≤ 16) : (entLg i).ok := by
 unfold entLg Ent.ok I64 U64; simp; omega
theorem entLg_right {i : Nat} (hi : i ≤ 16) : rightE (entLg i) = true := rightE_iff.2 (by unfold entLg; simp; omega)
theorem bt_entLg (i : Nat) : Tryz.prog.built 38 [(0, .int .i64 1), (5, .int .i64 (i : Int))] = some (entV (entLg i)).toArray := by kernel_rfl
theorem leaves3 {i : Nat} (hi : i ≤ 16) : (leavesB [] (entLg i) 0).length = 3 := by
 unfold leavesB; rw [if_pos ⟨entLg_right hi, by omega⟩]; rfl
theorem nextLg {i : Nat} (hi : i ≤ 16) : rightH (nextH noHdr true (leavesB [] (entLg i) 0) (entLg i).shard (entLg i).epoch) = true := by
 rw [rightH_iff]; unfold nextH; rw [if_pos rfl];show (0 ≤ (0 : Int) ∧ (0 : Int) ≤ 63) ∧ (1 ≤ (1 : Int) ∧ (1 : Int) ≤ 1099511627776) ∧ (0 ≤ (i : Int) ∧ (i : Int) ≤ 1099511627776)
 omega
theorem madeLg_ok {i : Nat} (hi : i ≤ 16) : madeOK [] (entLg i) 0 = true := by
 unfold madeOK nextOK;rw [leaves3 hi, nextLg hi]; rfl
def cerLg (i : Nat) : Cer := madeC [] [] (entLg i) 0
theorem madeLg {i : Nat} (hi : i ≤ 16) : madeR [] [] (entLg i) 0 = cerLg i := by unfold madeR; rw [if_pos (madeLg_ok hi)]; rfl
theorem cerLg_ok {i : Nat} (hi : i ≤ 16) : (cerLg i).ok := madeC_ok (entLg_ok hi)
def withP (x : Cer) (ds : List (List UInt8)) : Cer := { x with path := ds }
theorem withP_v (x : Cer) (ds : List (List UInt8)) (v : Value) : certV v (withP x ds) = certV v x := rfl
theorem withP_ok {x : Cer} {ds : List (List UInt8)} (h : x.ok) (hd : ∀ d ∈ ds, d.length = 32) : (withP x ds).ok := ⟨h.1, hd, h.2.2⟩
theorem withP_right {i : Nat} (hi : i ≤ 16) {ds : List (List UInt8)} (hl : ds.length ≤ 32) : badCert (withP (cerLg i) ds) = false := by
 unfold badCert withP cerLg madeC;simp only [entLg_right hi, nextLg hi];simp; omega
theorem cert_setw {u v : Value} {x : Cer} (h : x.ok) : (certV v x).set 37 u = certV u x := by
 unfold certV;rw [List.set_append_right _ _ (by rw [entV_length h.1]; omega), entV_length h.1]; rfl
theorem cert_at37 {v : Value} {x : Cer} (h : x.ok) : (certV v x)[37]? = some v := by
 unfold certV;rw [List.getElem?_append_right (by rw [entV_length h.1]; omega), entV_length h.1]; rfl
def idLg (j : Nat) : List UInt8 := UInt8.ofNat j :: List.replicate 31 0
theorem idLg_len (j : Nat) : (idLg j).length = 32 := by simp [idLg]
theorem built_idl0 (parts : List (Nat × Value)) : Tryz.prog.built 32 parts = Instr.fill (fun i => some (i * 1, 1)) (zId.map B).toArray parts := by kernel_rfl
theorem built_idl (f : Nat) (hf : f < 256) : Tryz.prog.built 32 [(0, .int .u8 (f : Int))] = some ((idLg f).map B).toArray := by
 rw [built_idl0, fill_cons (off := 0) (s := 1) (cs := [.int .u8 (f : Int)]) rfl rfl rfl (by rw [List.length_map]; simp [zId]), fill_nil];refine congrArg (fun l : List Value => some l.toArray) ?_;unfold idLg;rw [List.map_cons, show B (UInt8.ofNat f) = .int .u8 (f : Int) by unfold B; rw [b8_ofNat, Nat.mod_eq_of_lt hf]]
 rfl
def cmLg (t : Txn) (cs : List Cer) : Cmd := { noCmd with kind := 4, tx := t, certs := cs }
theorem built_cmLg (t : Txn) (A : Option Addr) (n c : Nat) (A2 : Option Addr) (n2 c2 : Nat) (l : List (Value × Inp)) : Tryz.prog.built 36 [(0, .int .i64 4), (1, .agg (txV A n c A2 n2 c2 t.fee t.expiry).toArray)] = some ((qW A n c A2 n2 c2 l none 0 0 []).vs (cmLg t [])).toArray := by kernel_rfl
theorem cmLg_ok {t : Txn} {cs : List Cer} (ht : t.ok) (hc : ∀ x ∈ cs, x.ok) : (cmLg t cs).ok := ⟨by show I64 4; unfold I64; omega, ht, hc, noCmd_ok.2.2.2⟩
theorem checkT_short {t : Txn} (h : checkT t = 0) : t.ins.length ≤ 16 ∧ t.outs.length ≤ 16 ∧ ∀ i ∈ t.ins, i.secret.length ≤ 64 := by
 unfold checkT at h;cases hl : longT t with
 | true => rw [hl] at h; simp at h
 | false =>
  unfold longT at hl;simp only [Bool.or_eq_false_iff, Bool.not_eq_false', List.any_eq_false] at hl;obtain ⟨h1, h2⟩ := hl;unfold shortT at h1;simp only [Bool.and_eq_true, inB_iff] at h1;refine ⟨by omega, by omega, fun i hi => ?_⟩;have := h2 i hi;unfold longI at this;simp at this; omega
theorem cmLg_small {t : Txn} {cs : List Cer} (h : checkT t = 0) (hl : cs.length ≤ 16) (hp : ∀ x ∈ cs, x.path.length ≤ 32) : SmallC (cmLg t cs) := by
 obtain ⟨h1, h2, h3⟩ := checkT_short h;refine ⟨?_, ?_, fun i hi => ?_, ?_, fun x hx => ?_⟩
 ·show t.ins.length ≤ _; omega
 ·show t.outs.length ≤ _; omega
 ·have := h3 i hi; omega
 ·show cs.length ≤ _; omega
 ·have := hp x hx; omega
theorem cmLg_check {t : Txn} {cs : List Cer} (h : checkT t = 0) (hl : cs.length ≤ 16) (hb : ∀ x ∈ cs, badCert x = false) : checkC (cmLg t cs) = 0 := by
 have e : cs.any badCert = false := by rw [List.any_eq_false]; intro x hx; simp [hb x hx]
 unfold checkC;rw [if_neg (by show ¬ ((4 : Int) < 1 ∨ 9 < (4 : Int)); omega), if_neg (by simp [cmLg, noCmd, wrong1, wrong2, wrong3, noOutB, noOutC, hasTxK, hasCK]), if_neg (by show ¬ 16 < cs.length; omega)];show (if hasTxK 4 && !decide (checkT t = 0) then checkT t else if cs.any badCert then 16 else 0) = 0
 rw [h, e]; simp
theorem CertsO.grow {w w' : World} {Z n c : Nat} {A : Option Addr} {cl : List (Value × Cer)} (h : CertsO w Z A n c cl) (k : Grow w w') : CertsO w' Z A n c cl := h.keep (fun b _ hb => k.block b hb) k.size
theorem ownI_ids {w : World} {Z n c : Nat} {A : Option Addr} {ds : List (List UInt8)} (h : OwnI w Z A n c ds) (hl : ds.length = n) (h32 : ∀ d ∈ ds, d.length = 32) : Ids w A n c ds := by
 refine Ids.own h hl h32 ?_;rcases Nat.eq_zero_or_pos n with e | e
 ·omega
 ·obtain ⟨_, _, _, _, h4⟩ := own_form h e; exact h4
theorem formC_two {m : Cmd} (h : checkC m = 0) : (formC m).1.length ≤ 8192 ∧ ((formC m).2 = 0 ∨ ((formC m).2 = 4 ∧ (formC m).1.length = 0)) := by
 unfold formC;rw [if_neg (by simpa using h)];by_cases h2 : 8192 < (putCm m).length
 ·rw [if_pos h2]; exact ⟨by simp, .inr ⟨rfl, rfl⟩⟩
 ·rw [if_neg h2]; exact ⟨by show (putCm m).length ≤ 8192; omega, .inl rfl⟩
end Go.Proofs.YtiijepimkgaccaaGreat

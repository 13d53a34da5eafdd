/- The example of seisinlaw11, and what is looked at. -/
import Derived.Test.YtofhohofaedokaaMarksPlayB13
import Derived.Test.YtofhohofaedokaaMarksPlayB12
import Derived.Test.YtofhohofaedokaaMarksPlayB16
import Derived.Test.YtofhohofaedokaaMarksPlayB8
import Derived.Test.YtofhohofaedokaaMarksPlayB11
import Derived.Deep.CutBlock
set_option linter.unusedSimpArgs false
/- The example of seisinlaw11, and what is looked at. -/
namespace Go.Proofs.Ytofhohofaedokaa
open Go.RowKit Go.Shelf
set_option linter.unusedVariables false
def Up (w0 w : World) : Prop := Grow w0 w
theorem Up.grow {w0 w w' : World} (h : Up w0 w) (k : Grow w w') : Up w0 w' := Below.grow' h k
theorem Up.out_ {w0 w : World} (h : Up w0 w) : Grow w0 w := h
theorem zero_entry : (Try.prog.info? 31).map (·.zero) = some (some (.agg (entV noEnt).toArray)) := by kernel_rfl
theorem len_entry : (entV noEnt).length = 37 := entV_length noEnt_ok
theorem ent_cl {x : Ent} (hx : x.ok) : Cl 37 (entV x) := ⟨entV_length hx, fun u hu => cert_one (.slice none 0 0) rfl ⟨x, [], noHdr, zeroD⟩ u (by simp [certV, hu])⟩
theorem hdr_cl {x : Hdr} (hx : x.ok) : Cl 67 (hdrV x) := ⟨hdrV_length hx, hdr_one x⟩
theorem mk_first {seed cmd : List UInt8} {N : Nat} {e o : Ent} {i : Int} (ho : okL e i = true) (hr : rightH (nextH noHdr true (leavesB cmd e i) e.shard e.epoch) = true) :
    mkOK seed N (leavesB cmd e i) e (nextH noHdr true (leavesB cmd e i) e.shard e.epoch) = decide (e.shard < N) := by
  have hls := leavesB_yes (c := cmd) ho
  have hre : rightE e = true := by unfold okL at ho; simp only [Bool.and_eq_true] at ho; exact ho.1
  have hsh : (nextH noHdr true (leavesB cmd e i) e.shard e.epoch).shard = e.shard := rfl
  have hep : (nextH noHdr true (leavesB cmd e i) e.shard e.epoch).epoch = e.epoch := rfl
  have hrt : (nextH noHdr true (leavesB cmd e i) e.shard e.epoch).root = rootB (leavesB cmd e i) := rfl
  generalize hh : nextH noHdr true (leavesB cmd e i) e.shard e.epoch = h at *
  have h0 : 0 ≤ e.shard := by have := rightE_iff.1 hre; omega
  have hm : midC (mkC seed N (leavesB cmd e i) e h) = true := by
    unfold midC mkC; simp only; rw [hre, hr, hsh, hep]; simp
  have ht : treeC (mkC seed N (leavesB cmd e i) e h) = true := by
    unfold treeC mkC; simp only [decide_eq_true_eq]
    rw [hrt]
    have hp := climbT_path (l := leavesB cmd e i) (i := 1) (x := putEB e) (by rw [hls]; rfl) (by rw [hls]; simp)
    rw [hls] at hp ⊢
    exact hp
  unfold mkOK isC
  rw [hr, hm, ht]
  simp only [Bool.true_and]
  unfold tagC mkC
  simp only
  rw [hsh]
  by_cases hlt : e.shard < N
  · rw [if_pos ⟨h0, hlt⟩]; simp [hlt]
  · simp [hlt]
theorem cert_set {v : Value} {c : Cer} (h : c.ok) {j : Nat} {y : UInt8} : (certV v c).set (105 + j) (B y) = certV v { c with tag := c.tag.set j y } := by
  have e : certV v c = (entV c.e ++ v :: hdrV c.h) ++ c.tag.map B := by simp [certV]
  have e2 : certV v { c with tag := c.tag.set j y } = (entV c.e ++ v :: hdrV c.h) ++ (c.tag.set j y).map B := by simp [certV]
  have hl : (entV c.e ++ v :: hdrV c.h).length = 105 := by rw [List.length_append, entV_length h.1, List.length_cons, hdrV_length h.2.2.1]
  rw [e, e2, List.set_append_right _ _ (by omega), hl, Nat.add_sub_cancel_left, List.map_set]
theorem isC_turned {seed : List UInt8} {N : Nat} {c : Cer} {t : List UInt8} (h : isC seed N c = true) (hne : t ≠ c.tag) : isC seed N { c with tag := t } = false := by
  unfold isC at h ⊢
  simp only [Bool.and_eq_true] at h
  have h2 := h.2
  unfold tagC at h2 ⊢
  simp only [Bool.and_eq_true, decide_eq_true_eq] at h2
  rw [Bool.and_eq_false_iff]; right
  rw [Bool.and_eq_false_iff]; right
  simp only [decide_eq_false_iff_not]
  rw [h2.2]; exact fun k => hne k.symm
theorem xor1_ne (x : UInt8) : x ^^^ 1 ≠ x := by
  intro h
  have h2 : x ^^^ (x ^^^ 1) = x ^^^ x := by rw [h]
  rw [← UInt8.xor_assoc, UInt8.xor_self, UInt8.zero_xor] at h2
  exact absurd h2 (by decide)
def ent11 : Ent := ⟨1, 1, zeroD, 7, 0, 0⟩
theorem ent11_ok : ent11.ok := by simp [ent11, Ent.ok, I64, U64, zeroD]
theorem bt_ent11 : Try.prog.built 31 [(0, .int .i64 1), (1, .int .i64 1), (3, .int .u64 7)] = some (entV ent11).toArray := by kernel_rfl
theorem okL_11 : okL ent11 9 = true := by decide
attribute [local go_sem high] xor_b
end Go.Proofs.Ytofhohofaedokaa

/- The contract of field.Pen.Text at a text that lies in any block but the pen's; what lies in the blocks below Z but the pen's. -/
namespace Go.Proofs.Ytofhohofaedokaa
open Go.RowKit Go.Shelf
set_option linter.unusedVariables false
set_option maxRecDepth 100000 in
set_option maxHeartbeats 2000000 in
theorem ptextk_any (g : Nat) (K : Nat → Prop) (xs : List UInt8) {A : Option Addr} {n c : Nat} {bs : List UInt8} (w : World) (h : PenAt w K g xs) (hbn : bs.length = n) (hs : ∀ w', Kept K w w' → Sl w' w'.heap.size 1 A n (bs.map B)) (hl : xs.length + n ≤ 900000) :
    Calls Try.prog 44 #[.pointer (some ⟨g, 0, none⟩), .slice A n c] w fun e w' => e = .returned (.tuple #[]) ∧ PenAt w' K g (xs ++ (numB n ++ bs)) ∧ Kept K w w' := by
  have HP := Lib.hid h
  have HS := Lib.hid hs
  have HBN := Lib.hid hbn
  have HU := Lib.hid (numB_le (n := n) (by omega))
  have q1 := conv_u64' (n := n) (by omega)
  clear h hs hbn
  go_enter Try.func44, Try.ntmps44
  go_wp2_with fail
  refine (num_any g n K xs _ HP.out (by omega) (by omega)).mono ?_
  rintro e w2_ ⟨rfl, hp_, hk_⟩
  have HK := Lib.hid hk_
  have HS2 := Lib.hid (HS.out _ hk_)
  obtain ⟨ys, hys⟩ : ∃ ys, ys = xs ++ numB n := ⟨_, rfl⟩
  have HYE := Lib.hid (show ys ++ bs = xs ++ (numB n ++ bs) by rw [hys, List.append_assoc])
  have HYL := Lib.hid (show ys.length ≤ xs.length + 9 by rw [hys, List.length_append]; have := HU.out; omega)
  rw [← hys] at hp_
  obtain ⟨Ap, cp, hq1, hq2, hq3, hq4⟩ := hp_
  have HPB := Lib.hid hq1
  have HPO := Lib.hid hq2
  have HPK := Lib.hid hq3
  have HPN := Lib.hid hq4
  have hcl := hq1.at_ (i := 0) rfl
  have hyl := HYL.out
  have HONE := Lib.hid (all_bytes bs)
  clear hk_ hq1 hq2 hq3 hq4 HS HP q1 hys
  go_wp2_with (first | (at_builtin; refine wpl_apps rfl rfl el_u8 HPO.out rfl HS2.out rfl HONE.out (by omega) (by omega) (Nat.zero_le _) ?_))
  intro A3 c3 w3_ ho_ hg_ hA_
  have hll : (ys ++ bs).length = ys.length + n := by rw [List.length_append, HBN.out]
  have HPB3 := Lib.hid (HPB.out.grown hg_ (fun e => (HPN.out e.symm).elim))
  have HAP := Lib.hid (pen_app (ys := ys ++ bs) (A' := A3) (c' := c3) HPB.out HPO.out HPK.out HPN.out (by rw [hll, List.map_append]; exact ho_) hg_ (fun b hb => hA_.elim (fun h => .inl (h.symm.trans hb)) (fun h => .inr (by obtain ⟨a, h1, h2⟩ := h; subst h1; have h3 : a.block = b := Option.some.inj hb; omega))))
  rw [hll] at HAP
  clear ho_ hg_ hA_ hcl hll
  have hcl := HPB3.out.at_ (i := 0) rfl
  have hfz := HPB3.out.frozen 0
  go_wp2_with fail
  refine bodyPost_end (results_none rfl _ _ _) rfl ?_
  exact ⟨rfl, by rw [← HYE.out]; exact HAP.out.1, HK.out.trans HAP.out.2⟩
def Kz (gp Z : Nat) : Nat → Prop := fun j => j < Z ∧ j ≠ gp
theorem kz_sl {w w' : World} {gp Z n : Nat} {A X : Option Addr} {k c : Nat} {bs : List UInt8} (h : Sl w w.heap.size 1 A n (bs.map B)) (hp : Blk w gp 72 [.slice X k c]) (hk : Kept (Kz gp Z) w w') (hz : w.heap.size ≤ Z) : Sl w' w'.heap.size 1 A n (bs.map B) := by
  refine ⟨h.1, fun hn => ?_⟩
  obtain ⟨b, off, e, hb, hc⟩ := h.2 hn
  have hne : b ≠ gp := by
    intro e2
    subst e2
    have hl : 0 < (bs.map B).length := by have := h.1; omega
    have h0 := hc 0 _ (List.getElem?_eq_getElem hl)
    rw [Nat.add_zero, hp.cell, List.getElem_map] at h0
    cases off with
    | zero => simp [B] at h0
    | succ o => simp at h0
  refine ⟨b, off, e, Nat.lt_of_lt_of_le hb hk.size, fun j u hu => ?_⟩
  exact (World.cell?_of_block (a := ⟨b, off + j, none⟩) (hk.block b ⟨by omega, hne⟩)).trans (hc j u hu)
theorem kz_low {w w' : World} {gp Z : Nat} (hk : Kept (Kz gp Z) w w') (hz : gp ≤ Z) : Below gp w w' := hk.below (fun j hj => ⟨by omega, by omega⟩)
theorem kz_at {w w' : World} {gp Z g n : Nat} {T : TypeId} {xs : List Value} (h : At w g T n xs) (hk : Kept (Kz gp Z) w w') (h1 : g < Z) (h2 : g ≠ gp) : At w' g T n xs := ⟨hk.blk h.1 ⟨h1, h2⟩, h.2⟩
theorem kz_pen {w w1 : World} {gp : Nat} {xs : List UInt8} (h : PenAt w (fun j => j < gp) gp xs) (hk : Grow w w1) (hl : gp + 1 = w.heap.size) : PenAt w1 (Kz gp w1.heap.size) gp xs :=
  h.more hk (fun j hj => by
    by_cases hlt : j < gp
    · exact .inl hlt
    · exact .inr ⟨by have := hj.2; omega, hj.1⟩)
end Go.Proofs.Ytofhohofaedokaa

/- The contract of cert.Put. -/
namespace Go.Proofs.Ytofhohofaedokaa
open Go.RowKit Go.Shelf
set_option linter.unusedVariables false
/-- A certificate's form. -/
def putCB (c : Cer) : List UInt8 := numB (eformB c.e).length ++ eformB c.e ++ numB c.path.length ++ c.path.flatten ++ numB (hformB c.h).length ++ hformB c.h ++ c.tag
theorem eformB_le {x : Ent} (h : x.ok) : (eformB x).length ≤ 77 := by
  unfold eformB; split
  · rename_i h1; exact putEB_len h h1
  · simp
theorem hformB_le {x : Hdr} (h : x.ok) : (hformB x).length ≤ 91 := by
  unfold hformB; split
  · rename_i h1; exact putHB_len h h1
  · simp
theorem flat_32 : ∀ (ds : List (List UInt8)), (∀ d ∈ ds, d.length = 32) → ds.flatten.length = ds.length * 32
  | [], _ => rfl
  | d :: ds, h => by
    rw [List.flatten_cons, List.length_append, h d (by simp), flat_32 ds (fun x hx => h x (by simp [hx])), List.length_cons]; omega
theorem flat_take {ds : List (List UInt8)} {k : Nat} {d : List UInt8} (h : ds[k]? = some d) : (ds.take (k + 1)).flatten = (ds.take k).flatten ++ d := by
  rw [List.take_add_one, h, Option.toList_some, List.flatten_append]; simp
theorem own_lower {w : World} {base base' n c sz : Nat} {e : TypeId} {A : Option Addr} {xs : List Value} (h : w.ownsRow base e sz (.slice A n c) n xs) (k : base' ≤ base) : w.ownsRow base' e sz (.slice A n c) n xs := by
  refine ⟨h.1, ?_⟩
  rcases h.2 with h | ⟨b, cap, cur, hv, hle, hr⟩
  · exact .inl h
  · exact .inr ⟨b, cap, cur, hv, Nat.le_trans k hle, hr⟩
set_option maxRecDepth 100000 in
set_option maxHeartbeats 4000000 in
theorem cputo_any {A2 : Option Addr} {n2 c2 : Nat} {x : Cer} (w : World) (hx : x.ok) (hn : n2 ≤ 1000) (hi : Ids w A2 n2 c2 x.path) :
    Calls Try.prog 45 #[.agg (certV (.slice A2 n2 c2) x).toArray] w fun e w' => ∃ A' c', e = .returned (.slice A' (putCB x).length c') ∧ OwnAt w' w.heap.size A' (putCB x).length c' ((putCB x).map B) ∧ (putCB x).length ≤ c' ∧ Below w.heap.size w w' := by
  have HI := Lib.hid hi
  have HB := Lib.hid (Below.refl w.heap.size w)
  have HE := Lib.hid (fun w => eput_any x.e w hx.1); have HH := Lib.hid (fun w => hput_any x.h w hx.2.2.1)
  have LEB := Lib.hid (eformB_le hx.1); have LHB := Lib.hid (hformB_le hx.2.2.1)
  have HD := Lib.hid (cert_cl (v := .slice A2 n2 c2) rfl hx)
  have LE := Lib.hid (entV_length hx.1); have LH := Lib.hid (hdrV_length hx.2.2.1)
  have DT := Lib.hid (dig_map hx.2.2.2)
  have IA := Lib.hid (cert_ats (v := .slice A2 n2 c2) hx)
  have ME := Lib.hid (fun w g t hb => midCE (c := x) (v := .slice A2 n2 c2) (w := w) (g := g) (t := t) hb)
  have MH := Lib.hid (fun w g t hb => midCH (c := x) (v := .slice A2 n2 c2) (w := w) (g := g) (t := t) hx hb)
  have MT := Lib.hid (fun w g t hb => midCT (c := x) (v := .slice A2 n2 c2) (w := w) (g := g) (t := t) hx hb)
  have HNL := Lib.hid hi.2.1
  have HFL := Lib.hid (show ∀ k, ((x.path.take k).flatten).length ≤ n2 * 32 from fun k => by
    have h := flat_32 (x.path.take k) (fun d hd => hx.2.1 d (List.mem_of_mem_take hd))
    have h2 : (x.path.take k).length ≤ n2 := by rw [List.length_take, hi.2.1]; omega
    omega)
  obtain ⟨eb, heb⟩ : ∃ v, v = eformB x.e := ⟨_, rfl⟩
  obtain ⟨hb, hhb⟩ : ∃ v, v = hformB x.h := ⟨_, rfl⟩
  obtain ⟨ps, hps⟩ : ∃ k, k = x.path := ⟨_, rfl⟩
  obtain ⟨tg, htg⟩ : ∃ k, k = x.tag := ⟨_, rfl⟩
  have HPUT := Lib.hid (show putCB x = numB eb.length ++ eb ++ numB ps.length ++ ps.flatten ++ numB hb.length ++ hb ++ tg by rw [heb, hhb, hps, htg]; rfl)
  obtain ⟨out, hout⟩ : ∃ v, v = putCB x := ⟨_, rfl⟩
  rw [← hout] at HPUT ⊢
  rw [← heb] at HE LEB
  rw [← hhb] at HH LHB
  rw [← hps] at HI HNL HFL
  rw [← htg] at DT MT
  obtain ⟨ne, hne⟩ : ∃ v, v = eb.length := ⟨_, rfl⟩
  obtain ⟨nh, hnh⟩ : ∃ v, v = hb.length := ⟨_, rfl⟩
  have HNE := Lib.hid hne; have HNH := Lib.hid hnh
  rw [← hne] at HE LEB HPUT
  rw [← hnh] at HH LHB HPUT
  rw [HNL.out] at HPUT
  obtain ⟨xv, hxv⟩ : ∃ v, v = certV (.slice A2 n2 c2) x := ⟨_, rfl⟩
  obtain ⟨ev, hev⟩ : ∃ v, v = entV x.e := ⟨_, rfl⟩
  obtain ⟨hv, hhv⟩ : ∃ v, v = hdrV x.h := ⟨_, rfl⟩
  obtain ⟨tv, htv⟩ : ∃ v, v = tg.map B := ⟨_, rfl⟩
  rw [← hxv] at HD IA ME MH MT ⊢
  rw [← hev] at HE LE ME
  rw [← hhv] at HH LH MH
  rw [← htv] at DT MT
  have le9 := numB_le (n := ne) (by have := LEB.out; omega); have lh9 := numB_le (n := nh) (by have := LHB.out; omega); have ln9 := numB_le (n := n2) (by omega)
  have LNE := Lib.hid le9; have LNH := Lib.hid lh9; have LN9 := Lib.hid ln9
  clear hi hx heb hhb hps htg hout hne hnh hxv hev hhv htv le9 lh9 ln9
  go_enter Try.func45, Try.ntmps45
  obtain ⟨g0, hg0⟩ : ∃ q, q = w.heap.size := ⟨_, rfl⟩
  go_wp2_with (first | (with_reducible refine wpl_box (o := ⟨some 1, _, _, _, _, _⟩) rfl rfl rfl ?_))
  intro w2_ hb2_ hb_ hsz2_
  have HX_ := Lib.hid (at_mk hb2_ HD.out.len)
  clear hb2_ hsz2_
  have HB_ := Lib.hid (HB.out.grow' hb_)
  clear HB
  have HB := HB_
  clear HB_
  have HI_ := Lib.hid (HI.out.grow hb_)
  clear HI
  have HI := HI_
  clear HI_
  have HX := HX_
  clear hb_ HX_
  try clear w_
  rename World => w_
  go_wp2_with (first | (with_reducible refine wpl_alloc (o := ⟨some 3, _, _, _, _, _⟩) rfl rfl zero_pen ?_))
  intro w4 hb4 hbw4 hsz4
  obtain ⟨gp, hgp⟩ : ∃ q, q = w_.heap.size := ⟨_, rfl⟩
  have HG1 := Lib.hid (show w.heap.size < gp by have h1 := HX.out.lt; omega)
  have HX4 := Lib.hid (HX.out.grow hbw4)
  have HI4 := Lib.hid (HI.out.grow hbw4)
  have HB4 := Lib.hid (HB.out.grow' hbw4)
  rw [← hgp] at hb4 hsz4 ⊢
  have HP := Lib.hid (show PenAt w4 (fun j => j < gp) gp [] from PenAt.new hb4 (fun k hk => by omega))
  have HPB := Lib.hid hb4
  have HZ4 := Lib.hid (show gp + 1 = w4.heap.size by omega)
  clear hb4 hbw4 hsz4 hgp HX HB HI
  have HU := Lib.hid (show Up w4 w4 from Grow.refl _)
  have HX := HX4; have HI := HI4; have HB := HB4
  clear HX4 HI4 HB4
  have FME := Lib.hid (ME.out _ _ _ HX.out.blk)
  go_wp2_with (first | (with_reducible refine wpl_loadm (o := ⟨some 12, _, _, _, _, _⟩) rfl rfl row_entry FME.out rfl LE.out ?_))
  refine (HE.out _).mono ?_
  rintro e w2_ ⟨A3, c3, rfl, hs3, hc3, hb_⟩
  have HS3 := Lib.hid hs3
  clear hs3 hc3 FME HE ME
  have HU_ := Lib.hid (HU.out.grow hb_)
  have HX_ := Lib.hid (HX.out.grow hb_); have HI_ := Lib.hid (HI.out.grow hb_); have HB_ := Lib.hid (HB.out.grow' hb_); have HPB_ := Lib.hid (HPB.out.grow hb_)
  clear HX HI HB HPB HU hb_
  have HX := HX_; have HI := HI_; have HB := HB_; have HPB := HPB_; have HU := HU_
  clear HX_ HI_ HB_ HPB_ HU_
  rename World => w_
  have FMH := Lib.hid (MH.out _ _ _ HX.out.blk)
  go_wp2_with (first | (with_reducible refine wpl_loadm (o := ⟨some 18, _, _, _, _, _⟩) rfl rfl row_header FMH.out rfl LH.out ?_))
  refine (HH.out _).mono ?_
  rintro e w6 ⟨A4, c4, rfl, hs4, hc4, hb_⟩
  have HS4 := Lib.hid hs4
  clear hs4 hc4 FMH HH MH
  have HS3_ := Lib.hid (HS3.out.grow hb_)
  have HU_ := Lib.hid (HU.out.grow hb_)
  have HX_ := Lib.hid (HX.out.grow hb_); have HI_ := Lib.hid (HI.out.grow hb_); have HB_ := Lib.hid (HB.out.grow' hb_); have HPB_ := Lib.hid (HPB.out.grow hb_)
  clear HX HI HB HPB HU HS3 hb_
  have HX := HX_; have HI := HI_; have HB := HB_; have HPB := HPB_; have HS3 := HS3_
  have HPEN := Lib.hid (kz_pen HP.out HU_.out HZ4.out)
  clear HX_ HI_ HB_ HPB_ HS3_ HU_ HP
  obtain ⟨Z, hZ⟩ : ∃ q, q = w6.heap.size := ⟨_, rfl⟩
  have HZZ := Lib.hid hZ
  have HZG := Lib.hid (show gp < Z by have := HPB.out.lt; omega)
  rw [← hZ] at HPEN
  have HK := Lib.hid (show Kept (Kz gp Z) w6 w6 from Kept.refl _ _)
  have HXK := Lib.hid (show ∀ w', Kept (Kz gp Z) w6 w' → At w' w.heap.size 36 137 xv from fun w' h => kz_at HX.out h (by have h1 := HG1.out; have h2 := HZG.out; omega) (by have h1 := HG1.out; omega))
  have HBK := Lib.hid (show ∀ w', Kept (Kz gp Z) w6 w' → Below w.heap.size w w' from fun w' h => HB.out.trans ((kz_low h (Nat.le_of_lt HZG.out)).mono (Nat.le_of_lt HG1.out)))
  have HS3K := Lib.hid (show ∀ w', Kept (Kz gp Z) w6 w' → Sl w' w'.heap.size 1 A3 ne (eb.map B) from fun w' h => kz_sl HS3.out HPB.out h (by omega))
  have HS4K := Lib.hid (show ∀ w', Kept (Kz gp Z) w6 w' → Sl w' w'.heap.size 1 A4 nh (hb.map B) from fun w' h => kz_sl HS4.out HPB.out h (by omega))
  have HIK := Lib.hid (show ∀ (w' : World) (k : Nat), Kept (Kz gp Z) w6 w' → k < n2 → ∃ b off d, A2 = some ⟨b, off, none⟩ ∧ ps[k]? = some d ∧ d.length = 32 ∧ ∀ j u, (d.map B)[j]? = some u → w'.cell? ⟨b, off + k * 32 + j, none⟩ = some u from fun w' k h hk => by
    obtain ⟨b, off, d, h1, h2, h3, h4, h5⟩ := HI.out.key hk
    refine ⟨b, off, d, h1, h2, h3, fun j u hu => ?_⟩
    have h6 := h5 j u hu
    by_cases e : b = gp
    · subst e
      exfalso
      have h7 : 0 < (d.map B).length := by rw [List.length_map, h3]; omega
      have h8 := h5 0 _ (List.getElem?_eq_getElem h7)
      rw [HPB.out.cell, List.getElem_map] at h8
      cases hq : off + k * 32 + 0 with
      | zero => rw [hq] at h8; simp [B] at h8
      | succ o => rw [hq] at h8; simp at h8
    · exact (World.cell?_of_block (a := ⟨b, off + k * 32 + j, none⟩) (h.block b ⟨by omega, e⟩)).trans h6)
  clear hZ HX HI HB HPB HS3 HS4 HZ4
  rename_i w5_
  have c37 := (HXK.out _ HK.out).blk.at_ IA.out.2.2.2.1
  go_wp2_with fail
  refine (ptextk_any gp (Kz gp Z) [] _ HPEN.out HNE.out.symm (fun w' h => HS3K.out w' (HK.out.trans h)) (by have := LEB.out; simp only [List.length_nil]; omega)).mono ?_
  rintro e w_ ⟨rfl, hp_, hk_⟩
  have HPEN_ := Lib.hid (show PenAt w_ (Kz gp Z) gp (numB ne ++ eb) from hp_)
  have HK_ := Lib.hid (HK.out.trans hk_)
  clear hp_ hk_ HPEN HK c37 HS3K
  have HPEN := HPEN_; have HK := HK_
  clear HPEN_ HK_
  have c37 := (HXK.out _ HK.out).blk.at_ IA.out.2.2.2.1
  have q1 := conv_u64' (n := n2) (by omega)
  go_wp2_with fail
  refine (num_any gp n2 (Kz gp Z) (numB ne ++ eb) _ HPEN.out (by clear q1; rw [List.length_append, ← HNE.out]; have h1 := LNE.out; have h2 := LEB.out; omega) (by clear q1; omega)).mono ?_
  rintro e w2_ ⟨rfl, hp_, hk_⟩
  have HK_ := Lib.hid (HK.out.trans hk_)
  obtain ⟨pre, hpre⟩ : ∃ v, v = numB ne ++ eb ++ numB n2 := ⟨_, rfl⟩
  have HPRE := Lib.hid hpre
  have HPL := Lib.hid (show pre.length ≤ 100 by rw [hpre, List.length_append, List.length_append, ← HNE.out]; have h1 := LNE.out; have h2 := LEB.out; have h3 := LN9.out; omega)
  rw [← hpre] at hp_
  have HPEN_ := Lib.hid hp_
  clear hp_ hk_ HPEN HK c37 q1 hpre
  have HPEN := HPEN_; have HK := HK_
  clear HPEN_ HK_
  try clear w_
  rename World => w_
  have c37 := (HXK.out _ HK.out).blk.at_ IA.out.2.2.2.1
  go_wp2_with fail
  go_loopw [32] (fun iv wr => ∃ k : Nat, k ≤ n2 ∧ iv = .int .i64 k ∧ Hid (PenAt wr (Kz gp Z) gp (pre ++ (ps.take k).flatten)) ∧ Hid (Kept (Kz gp Z) w6 wr)) (fun iv _ => n2 - (intOf iv).toNat)
  case atStart => exact ⟨0, by omega, rfl, Lib.hid (by simpa using HPEN.out), HK⟩
  case round =>
    obtain ⟨k, hk, rfl, hP, hK⟩ := hrel
    clear HPEN HK c37
    have HPEN := Lib.hid hP.out; have HK := Lib.hid hK.out
    clear hP hK
    rename World => w_
    by_cases hlt : k < n2
    · obtain ⟨b, off, d, rfl, hd, hd32, hcell⟩ := HIK.out _ k HK.out hlt
      have HSN := Lib.hid (flat_take hd)
      have HC := Lib.hid hcell
      have HDG := Lib.hid (dig_map hd32)
      obtain ⟨dv, hdv⟩ : ∃ v, v = d.map B := ⟨_, rfl⟩
      rw [← hdv] at HC HDG
      obtain ⟨xs, hxs⟩ : ∃ v, v = pre ++ (ps.take k).flatten := ⟨_, rfl⟩
      have HXS := Lib.hid hxs
      have hxl : xs.length ≤ 40000 := by rw [hxs, List.length_append]; have h1 := HPL.out; have h2 := HFL.out k; omega
      rw [← hxs] at HPEN
      clear hd hd32 hcell hdv hxs
      go_wp2_with (first | (with_reducible refine wpl_loadm (o := ⟨some 35, _, _, _, _, _⟩) rfl rfl row_id HC.out rfl HDG.out.len ?_) | (with_reducible refine wpl_alloc (o := ⟨some 9, _, _, _, _, _⟩) rfl rfl zero_id ?_))
      intro w1_ hb1_ hbw1_ hsz1_
      have HB1_ := Lib.hid (at_mk hb1_ len_id); have HBW1_ := Lib.hid hbw1_; have HZ1_ := Lib.hid hsz1_
      clear hb1_ hbw1_ hsz1_
      go_wp2_with (first | (with_reducible refine wpl_storeb (o := ⟨none, .store _ _ _, _, _, _, _⟩) rfl rfl row_id HB1_.out.blk rfl rfl HB1_.out.len HDG.out.len HDG.out.one ?_))
      intro w2_ hb2_ hg2_ hsz2_
      have hgr_ := var_grow HBW1_.out HZ1_.out hg2_
      have HV := Lib.hid (at_mk hb2_ HDG.out.len)
      have HPEN_ := Lib.hid (HPEN.out.grow hgr_)
      have HZW := Lib.hid (show Z ≤ w_.heap.size by have := HK.out.size; have := HZZ.out; omega)
      have HK_ := Lib.hid (HK.out.trans (Kept.of_grow hgr_ (fun j hj => Nat.lt_of_lt_of_le hj.1 HZW.out)))
      clear hb2_ hg2_ hsz2_ hgr_ HB1_ HBW1_ HZ1_ HPEN HK HC HZW
      have HPEN := HPEN_; have HK := HK_
      clear HPEN_ HK_
      go_wp2_with (first | (with_reducible refine wpl_loadb (o := ⟨some 36, _, _, _, _, _⟩) rfl rfl row_id HV.out.blk rfl HV.out.len ?_))
      refine (pid_any gp (Kz gp Z) xs HDG.out _ HPEN.out (by omega)).mono ?_
      rintro e w3_ ⟨rfl, hp_, hk_⟩
      have HPN := Lib.hid (show PenAt w3_ (Kz gp Z) gp (pre ++ (ps.take (k + 1)).flatten) by rw [HSN.out, ← List.append_assoc, ← HXS.out]; exact hp_)
      have HK_ := Lib.hid (HK.out.trans hk_)
      clear hp_ hk_ HPEN HK HV
      go_wp2_with fail
      go_roundw
      case rel => exact ⟨k + 1, by omega, by go_num, HPN, HK_⟩
      case measure => simp [intOf]; omega
    · obtain rfl : k = n2 := by omega
      have HPEN_ := Lib.hid (show PenAt w_ (Kz gp Z) gp (pre ++ ps.flatten) by have h := HPEN.out; rw [List.take_of_length_le (by rw [HNL.out]; exact Nat.le_refl _)] at h; exact h)
      have HFN := Lib.hid (show ps.flatten.length ≤ k * 32 by have h := HFL.out k; rw [List.take_of_length_le (by rw [HNL.out]; exact Nat.le_refl _)] at h; exact h)
      obtain ⟨xs, hxs⟩ : ∃ v, v = pre ++ ps.flatten := ⟨_, rfl⟩
      have HXS := Lib.hid hxs
      have hxl : xs.length ≤ 40000 := by rw [hxs, List.length_append]; have h1 := HPL.out; have h2 := HFN.out; omega
      rw [← hxs] at HPEN_
      clear HPEN hxs
      have HPEN := HPEN_
      clear HPEN_
      go_wp2_with fail
      refine (ptextk_any gp (Kz gp Z) xs _ HPEN.out HNH.out.symm (fun w' h => HS4K.out w' (HK.out.trans h)) (by have := LHB.out; omega)).mono ?_
      rintro e w2_ ⟨rfl, hp_, hk_⟩
      have HPEN_ := Lib.hid hp_
      have HK_ := Lib.hid (HK.out.trans hk_)
      clear hp_ hk_ HPEN HK HS4K
      have HPEN := HPEN_; have HK := HK_
      clear HPEN_ HK_
      try clear w_
      rename World => w_
      have FMT := Lib.hid (MT.out _ _ _ (HXK.out _ HK.out).blk)
      have HZL := Lib.hid (show (xs ++ (numB nh ++ hb)).length ≤ 50000 by rw [List.length_append, List.length_append, ← HNH.out]; have h1 := LNH.out; have h2 := LHB.out; omega)
      go_wp2_with (first | (with_reducible refine wpl_loadm (o := ⟨some 42, _, _, _, _, _⟩) rfl rfl row_aid FMT.out rfl DT.out.len ?_))
      refine (pid_any gp (Kz gp Z) (xs ++ (numB nh ++ hb)) DT.out _ HPEN.out (by have := HZL.out; omega)).mono ?_
      rintro e w2_ ⟨rfl, hp_, hk_⟩
      have HEQ := Lib.hid (show xs ++ (numB nh ++ hb) ++ tg = out by rw [HPUT.out, HXS.out, HPRE.out]; simp only [List.append_assoc])
      rw [HEQ.out] at hp_
      have HOL := Lib.hid (show out.length ≤ 60000 by rw [← HEQ.out, List.length_append, DT.out.2]; have := HZL.out; omega)
      have HPEN_ := Lib.hid hp_
      have HK_ := Lib.hid (HK.out.trans hk_)
      clear hp_ hk_ HPEN HK FMT
      have HPEN := HPEN_; have HK := HK_
      clear HPEN_ HK_
      try clear w_
      rename World => w_
      go_wp2_with fail
      refine (pbytes_any gp (Kz gp Z) out _ HPEN.out (by have := HOL.out; omega)).mono ?_
      rintro e w2_ ⟨A6, c6, rfl, ho6, hc6, hb_⟩
      have HX6 := Lib.hid (own_lower ho6 (HBK.out _ HK.out).size)
      have HC6 := Lib.hid hc6
      have HB6 := Lib.hid ((HBK.out _ HK.out).grow' hb_)
      clear ho6 hc6 hb_
      go_wp2_with fail
      go_ret
      exact ⟨A6, c6, rfl, HX6.out, HC6.out, HB6.out⟩
theorem cput_any {A2 : Option Addr} {n2 c2 : Nat} {x : Cer} (w : World) (hx : x.ok) (hn : n2 ≤ 1000) (hi : Ids w A2 n2 c2 x.path) :
    Calls Try.prog 45 #[.agg (certV (.slice A2 n2 c2) x).toArray] w fun e w' => ∃ A' c', e = .returned (.slice A' (putCB x).length c') ∧ Sl w' w'.heap.size 1 A' (putCB x).length ((putCB x).map B) ∧ (putCB x).length ≤ c' ∧ Below w.heap.size w w' :=
  (cputo_any w hx hn hi).mono fun e w' ⟨A', c', h1, h2, h3, h4⟩ => ⟨A', c', h1, Sl.of_own h2, h3, h4⟩
end Go.Proofs.Ytofhohofaedokaa

/- The contract of the document's Put of a certificate. -/
namespace Go.Proofs.Ytofhohofaedokaa
open Go.RowKit Go.Shelf
set_option linter.unusedVariables false
theorem acc_step {w6 w w3 : World} {Z n m c c' : Nat} {A A' : Option Addr} {acc new : List UInt8} (hz : Grow w6 w) (hZ : Z = w6.heap.size) (ho : OwnAt w Z A n c (acc.map B)) (ho_ : w3.ownsRow Z 5 1 (.slice A' (n + m) c') (n + m) (acc.map B ++ new.map B)) (hg : w.grownBy w3 (A.map Addr.block)) :
    OwnAt w3 Z A' (n + m) c' ((acc ++ new).map B) ∧ Grow w6 w3 := by
  refine ⟨by unfold OwnAt; rw [List.map_append]; exact ho_, ?_⟩
  unfold Grow at hz ⊢
  exact below_grown hz hg hz.size (fun g hg' => by have := own_from ho g hg'; omega)
set_option maxRecDepth 100000 in
set_option maxHeartbeats 4000000 in
theorem rcput_any {A2 : Option Addr} {n2 c2 : Nat} {x : Cer} (w : World) (hx : x.ok) (hn : n2 ≤ 1000) (hi : Ids w A2 n2 c2 x.path) :
    Calls Try.prog 48 #[.agg (certV (.slice A2 n2 c2) x).toArray] w fun e w' => ∃ A' c', e = .returned (.slice A' (putCB x).length c') ∧ Sl w' w'.heap.size 1 A' (putCB x).length ((putCB x).map B) ∧ (putCB x).length ≤ c' ∧ Below w.heap.size w w' := by
  have HI := Lib.hid hi
  have HB := Lib.hid (Below.refl w.heap.size w)
  have HE := Lib.hid (fun w => reright_any x.e w hx.1); have HH := Lib.hid (fun w => rhright_any x.h w hx.2.2.1)
  have HPE := Lib.hid (fun w h => reput_any x.e w hx.1 h); have HPH := Lib.hid (fun w h => rhput_any x.h w hx.2.2.1 h)
  have LEB := Lib.hid (eformB_le hx.1); have LHB := Lib.hid (hformB_le hx.2.2.1)
  have HD := Lib.hid (cert_cl (v := .slice A2 n2 c2) rfl hx)
  have LE := Lib.hid (entV_length hx.1); have LH := Lib.hid (hdrV_length hx.2.2.1)
  have DT := Lib.hid (dig_map hx.2.2.2)
  have IA := Lib.hid (cert_ats (v := .slice A2 n2 c2) hx)
  have ME := Lib.hid (fun w g t hb => midCE (c := x) (v := .slice A2 n2 c2) (w := w) (g := g) (t := t) hb)
  have MH := Lib.hid (fun w g t hb => midCH (c := x) (v := .slice A2 n2 c2) (w := w) (g := g) (t := t) hx hb)
  have MT := Lib.hid (fun w g t hb => midCT (c := x) (v := .slice A2 n2 c2) (w := w) (g := g) (t := t) hx hb)
  have HNL := Lib.hid hi.2.1
  have HFL := Lib.hid (show ∀ k, k ≤ n2 → ((x.path.take k).flatten).length = k * 32 from fun k hk => by
    have h := flat_32 (x.path.take k) (fun d hd => hx.2.1 d (List.mem_of_mem_take hd))
    rw [h, List.length_take, hi.2.1, Nat.min_eq_left hk])
  obtain ⟨re, hre⟩ : ∃ v, v = rightE x.e := ⟨_, rfl⟩
  obtain ⟨rh, hrh⟩ : ∃ v, v = rightH x.h := ⟨_, rfl⟩
  have HF1 := Lib.hid (show re = true → eformB x.e = putEB x.e from fun h => by rw [hre] at h; unfold eformB; rw [if_pos h])
  have HF2 := Lib.hid (show re = false → eformB x.e = [] from fun h => by rw [hre] at h; unfold eformB; rw [if_neg (by simp [h])])
  have HF3 := Lib.hid (show rh = true → hformB x.h = putHB x.h from fun h => by rw [hrh] at h; unfold hformB; rw [if_pos h])
  have HF4 := Lib.hid (show rh = false → hformB x.h = [] from fun h => by rw [hrh] at h; unfold hformB; rw [if_neg (by simp [h])])
  rw [← hre] at HE HPE; rw [← hrh] at HH HPH
  obtain ⟨eb, heb⟩ : ∃ v, v = eformB x.e := ⟨_, rfl⟩
  obtain ⟨hb, hhb⟩ : ∃ v, v = hformB x.h := ⟨_, rfl⟩
  obtain ⟨ps, hps⟩ : ∃ k, k = x.path := ⟨_, rfl⟩
  obtain ⟨tg, htg⟩ : ∃ k, k = x.tag := ⟨_, rfl⟩
  have HPUT := Lib.hid (show putCB x = numB eb.length ++ eb ++ numB ps.length ++ ps.flatten ++ numB hb.length ++ hb ++ tg by rw [heb, hhb, hps, htg]; rfl)
  obtain ⟨out, hout⟩ : ∃ v, v = putCB x := ⟨_, rfl⟩
  rw [← hout] at HPUT ⊢
  rw [← heb] at LEB HF1 HF2
  rw [← hhb] at LHB HF3 HF4
  rw [← hps] at HI HNL HFL
  rw [← htg] at DT MT
  obtain ⟨ne, hne⟩ : ∃ v, v = eb.length := ⟨_, rfl⟩
  obtain ⟨nh, hnh⟩ : ∃ v, v = hb.length := ⟨_, rfl⟩
  have HNE := Lib.hid hne; have HNH := Lib.hid hnh
  rw [← hne] at LEB HPUT
  rw [← hnh] at LHB HPUT
  rw [HNL.out] at HPUT
  obtain ⟨xv, hxv⟩ : ∃ v, v = certV (.slice A2 n2 c2) x := ⟨_, rfl⟩
  obtain ⟨ev, hev⟩ : ∃ v, v = entV x.e := ⟨_, rfl⟩
  obtain ⟨hv, hhv⟩ : ∃ v, v = hdrV x.h := ⟨_, rfl⟩
  obtain ⟨tv, htv⟩ : ∃ v, v = tg.map B := ⟨_, rfl⟩
  rw [← hxv] at HD IA ME MH MT ⊢
  rw [← hev] at HE HPE LE ME
  rw [← hhv] at HH HPH LH MH
  rw [← htv] at DT MT
  have lne := LEB.out; have lnh := LHB.out
  obtain ⟨me, hme⟩ : ∃ v, v = (numB ne).length := ⟨_, rfl⟩
  obtain ⟨mh, hmh⟩ : ∃ v, v = (numB nh).length := ⟨_, rfl⟩
  obtain ⟨mn, hmn⟩ : ∃ v, v = (numB n2).length := ⟨_, rfl⟩
  have le9 : me ≤ 9 := by rw [hme]; exact numB_le (by omega)
  have lh9 : mh ≤ 9 := by rw [hmh]; exact numB_le (by omega)
  have ln9 : mn ≤ 9 := by rw [hmn]; exact numB_le (by omega)
  have HME := Lib.hid hme; have HMH := Lib.hid hmh; have HMN := Lib.hid hmn
  have HRE := Lib.hid (fun w => rnum_any ne w (by omega)); have HRH := Lib.hid (fun w => rnum_any nh w (by omega)); have HRN := Lib.hid (fun w => rnum_any n2 w (by omega))
  rw [← hme] at HRE; rw [← hmh] at HRH; rw [← hmn] at HRN
  have HA1 := Lib.hid (all_bytes eb); have HA2 := Lib.hid (all_bytes hb); have HA3 := Lib.hid (all_bytes (numB nh)); have HA4 := Lib.hid (all_bytes (numB n2)); have HA5 := Lib.hid (all_bytes tg)
  have HTG := Lib.hid DT.out
  clear hi hx hre hrh heb hhb hps htg hout hne hnh hxv hev hhv htv hme hmh hmn
  go_enter Try.func48, Try.ntmps48
  go_wp2_with (first | (with_reducible refine wpl_box (o := ⟨some 1, _, _, _, _, _⟩) rfl rfl rfl ?_))
  intro w2_ hb2_ hb_ hsz2_
  have HX_ := Lib.hid (at_mk hb2_ HD.out.len)
  clear hb2_ hsz2_
  have HB_ := Lib.hid (HB.out.grow' hb_)
  clear HB
  have HB := HB_
  clear HB_
  have HI_ := Lib.hid (HI.out.grow hb_)
  clear HI
  have HI := HI_
  clear HI_
  have HX := HX_
  clear hb_ HX_
  try clear w_
  rename World => w_
  have FME := Lib.hid (ME.out _ _ _ HX.out.blk)
  go_wp2_with (first | (with_reducible refine wpl_loadm (o := ⟨some 8, _, _, _, _, _⟩) rfl rfl row_entry FME.out rfl LE.out ?_))
  refine (HE.out _).mono ?_
  rintro e w2_ ⟨rfl, hb_⟩
  clear FME HE
  have hb_ := hb_
  clear hb_
  have HB_ := Lib.hid (HB.out.grow' hb_)
  clear HB
  have HB := HB_
  clear HB_
  have HX_ := Lib.hid (HX.out.grow hb_)
  clear HX
  have HX := HX_
  clear HX_
  have HI_ := Lib.hid (HI.out.grow hb_)
  clear HI
  have HI := HI_
  clear HI_
  clear hb_
  try clear w_
  rename World => w_
  go_upto_if 9 with fail
  go_cut [3] from 7 (fun s3 wr => ∃ A3 c3, s3 = .slice A3 ne c3 ∧ Hid (Sl wr wr.heap.size 1 A3 ne (eb.map B) ∧ At wr w.heap.size 36 137 xv ∧ Ids wr A2 n2 c2 ps ∧ Below w.heap.size w wr))
  case first =>
    cases re with
    | false =>
      have h0 := HF2.out (by first | trivial | rfl)
      have h1 := HNE.out
      rw [h0] at h1
      have HZ0 := Lib.hid (show Sl w_ w_.heap.size 1 none ne (eb.map B) by rw [h0, h1]; exact Sl.nil)
      have h1 : ne = 0 := h1
      have HN0 := Lib.hid h1
      clear h0 h1
      go_wp2_with fail
      go_meet
      case rel => exact ⟨none, 0, by rw [HN0.out], Lib.hid ⟨HZ0.out, HX.out, HI.out, HB.out⟩⟩
    | true =>
      have FME := Lib.hid (ME.out _ _ _ HX.out.blk)
      go_wp2_with (first | (with_reducible refine wpl_loadm (o := ⟨some 11, _, _, _, _, _⟩) rfl rfl row_entry FME.out rfl LE.out ?_))
      refine (HPE.out _ (by first | trivial | rfl)).mono ?_
      rintro e w2_ ⟨A3, c3, rfl, hs3, hc3, hb_⟩
      have h0 := HF1.out (by first | trivial | rfl)
      have HLE := Lib.hid (show (putEB x.e).length = ne by rw [HNE.out, h0])
      rw [HLE.out] at hs3 ⊢
      have HS3 := Lib.hid (show Sl w2_ w2_.heap.size 1 A3 ne (eb.map B) by rw [h0]; exact hs3)
      clear hs3 hc3 FME h0
      have hb_ := hb_
      clear hb_
      have HB_ := Lib.hid (HB.out.grow' hb_)
      clear HB
      have HB := HB_
      clear HB_
      have HX_ := Lib.hid (HX.out.grow hb_)
      clear HX
      have HX := HX_
      clear HX_
      have HI_ := Lib.hid (HI.out.grow hb_)
      clear HI
      have HI := HI_
      clear HI_
      clear hb_
      try clear w_
      rename World => w_
      go_wp2_with fail
      go_meet
      case rel => exact ⟨A3, c3, rfl, Lib.hid ⟨HS3.out, HX.out, HI.out, HB.out⟩⟩
  case rest =>
    obtain ⟨A3, c3, rfl, hI⟩ := hcut
    clear HX HI HB
    have HS3 := Lib.hid hI.out.1; have HX := Lib.hid hI.out.2.1; have HI := Lib.hid hI.out.2.2.1; have HB := Lib.hid hI.out.2.2.2
    clear hI
    try clear w_
    rename World => w_
    have FMH := Lib.hid (MH.out _ _ _ HX.out.blk)
    go_wp2_with (first | (with_reducible refine wpl_loadm (o := ⟨some 14, _, _, _, _, _⟩) rfl rfl row_header FMH.out rfl LH.out ?_))
    refine (HH.out _).mono ?_
    rintro e w2_ ⟨rfl, hb_⟩
    clear FMH HH
    have hb_ := hb_
    clear hb_
    have HB_ := Lib.hid (HB.out.grow' hb_)
    clear HB
    have HB := HB_
    clear HB_
    have HX_ := Lib.hid (HX.out.grow hb_)
    clear HX
    have HX := HX_
    clear HX_
    have HI_ := Lib.hid (HI.out.grow hb_)
    clear HI
    have HI := HI_
    clear HI_
    have HS3_ := Lib.hid (HS3.out.grow hb_)
    clear HS3
    have HS3 := HS3_
    clear HS3_
    clear hb_
    try clear w_
    rename World => w_
    go_upto_if 15 with fail
    go_cut [4] from 7 (fun s4 wr => ∃ A4 c4, s4 = .slice A4 nh c4 ∧ Hid (Sl wr wr.heap.size 1 A4 nh (hb.map B) ∧ Sl wr wr.heap.size 1 A3 ne (eb.map B) ∧ At wr w.heap.size 36 137 xv ∧ Ids wr A2 n2 c2 ps ∧ Below w.heap.size w wr))
    case first =>
      cases rh with
      | false =>
        have h0 := HF4.out (by first | trivial | rfl)
        have h1 := HNH.out
        rw [h0] at h1
        have HZ0 := Lib.hid (show Sl w_ w_.heap.size 1 none nh (hb.map B) by rw [h0, h1]; exact Sl.nil)
        have h1 : nh = 0 := h1
        have HN0 := Lib.hid h1
        clear h0 h1
        go_wp2_with fail
        go_meet
        case rel => exact ⟨none, 0, by rw [HN0.out], Lib.hid ⟨HZ0.out, HS3.out, HX.out, HI.out, HB.out⟩⟩
      | true =>
        have FMH := Lib.hid (MH.out _ _ _ HX.out.blk)
        go_wp2_with (first | (with_reducible refine wpl_loadm (o := ⟨some 17, _, _, _, _, _⟩) rfl rfl row_header FMH.out rfl LH.out ?_))
        refine (HPH.out _ (by first | trivial | rfl)).mono ?_
        rintro e w2_ ⟨A4, c4, rfl, hs4, hc4, hb_⟩
        have h0 := HF3.out (by first | trivial | rfl)
        have HLE := Lib.hid (show (putHB x.h).length = nh by rw [HNH.out, h0])
        rw [HLE.out] at hs4 ⊢
        have HS4 := Lib.hid (show Sl w2_ w2_.heap.size 1 A4 nh (hb.map B) by rw [h0]; exact hs4)
        clear hs4 hc4 FMH h0
        have hb_ := hb_
        clear hb_
        have HB_ := Lib.hid (HB.out.grow' hb_)
        clear HB
        have HB := HB_
        clear HB_
        have HX_ := Lib.hid (HX.out.grow hb_)
        clear HX
        have HX := HX_
        clear HX_
        have HI_ := Lib.hid (HI.out.grow hb_)
        clear HI
        have HI := HI_
        clear HI_
        have HS3_ := Lib.hid (HS3.out.grow hb_)
        clear HS3
        have HS3 := HS3_
        clear HS3_
        clear hb_
        try clear w_
        rename World => w_
        go_wp2_with fail
        go_meet
        case rel => exact ⟨A4, c4, rfl, Lib.hid ⟨HS4.out, HS3.out, HX.out, HI.out, HB.out⟩⟩
    case rest =>
      obtain ⟨A4, c4, rfl, hI⟩ := hcut
      clear HX HI HB HS3
      have HS4 := Lib.hid hI.out.1; have HS3 := Lib.hid hI.out.2.1; have HX := Lib.hid hI.out.2.2.1; have HI := Lib.hid hI.out.2.2.2.1; have HB := Lib.hid hI.out.2.2.2.2
      clear hI
      try clear w_
      rename World => w6
      obtain ⟨Z, hZ⟩ : ∃ q, q = w6.heap.size := ⟨_, rfl⟩
      have HZ := Lib.hid hZ
      clear hZ
      have q1 := conv_u64' (n := ne) (by omega)
      go_wp2_with fail
      refine (HRE.out _).mono ?_
      rintro e w_ ⟨A5, c5, rfl, ho_, hc_, hb_⟩
      have HO := Lib.hid (show OwnAt w_ Z A5 me c5 ((numB ne).map B) by rw [HZ.out]; exact ho_)
      have HG := Lib.hid (show Grow w6 w_ from hb_)
      clear ho_ hc_ hb_ q1
      have HSL := Lib.hid (HS3.out.grow HG.out)
      have HZB := Lib.hid (show Z ≤ w_.heap.size by rw [HZ.out]; exact HG.out.size)
      go_wp2_with (at_builtin; refine wpl_apps rfl rfl el_u8 HO.out rfl HSL.out rfl HA1.out (by omega) (by omega) HZB.out ?_)
      intro A6 c6 w3_ ho_ hg_ hA_
      have hst := acc_step HG.out HZ.out HO.out ho_ hg_
      obtain ⟨k1, hk1⟩ : ∃ k, k = me + ne := ⟨_, rfl⟩
      obtain ⟨a1, ha1⟩ : ∃ a, a = numB ne ++ eb := ⟨_, rfl⟩
      have hk1b : k1 ≤ 100 := by omega
      rw [← hk1, ← ha1] at hst
      rw [← hk1]
      have HK1 := Lib.hid ha1
      have HO_ := Lib.hid hst.1; have HG_ := Lib.hid hst.2
      clear ho_ hg_ hA_ hst hk1 ha1 HO HG HSL HZB
      have HO := HO_; have HG := HG_
      clear HO_ HG_
      try clear w_
      rename World => w_
      have c37 := (HX.out.grow HG.out).blk.at_ IA.out.2.2.2.1
      have q1 := conv_u64' (n := n2) (by omega)
      go_wp2_with fail
      refine (HRN.out _).mono ?_
      rintro e w2_ ⟨A7, c7, rfl, ho_, hc_, hb_⟩
      have HSL := Lib.hid (Sl.of_own ho_)
      have HO_ := Lib.hid (show OwnAt w2_ Z A6 k1 c6 (a1.map B) from HO.out.grow hb_)
      have HG_ := Lib.hid (HG.out.grow' hb_)
      clear ho_ hc_ hb_ q1 c37 HO HG
      have HO := HO_; have HG := HG_
      clear HO_ HG_
      try clear w_
      rename World => w_
      have HZB := Lib.hid (show Z ≤ w_.heap.size by rw [HZ.out]; exact HG.out.size)
      go_wp2_with (at_builtin; refine wpl_apps rfl rfl el_u8 HO.out rfl HSL.out rfl HA4.out (by omega) (by omega) HZB.out ?_)
      intro A8 c8 w3_ ho_ hg_ hA_
      have hst := acc_step HG.out HZ.out HO.out ho_ hg_
      obtain ⟨k2, hk2⟩ : ∃ k, k = k1 + mn := ⟨_, rfl⟩
      obtain ⟨a2, ha2⟩ : ∃ a, a = a1 ++ numB n2 := ⟨_, rfl⟩
      have hk2b : k2 ≤ 110 := by omega
      rw [← hk2, ← ha2] at hst
      rw [← hk2]
      have HK2 := Lib.hid ha2
      have HO_ := Lib.hid hst.1; have HG_ := Lib.hid hst.2
      clear ho_ hg_ hA_ hst hk2 ha2 HO HG HSL HZB
      have HO := HO_; have HG := HG_
      clear HO_ HG_
      try clear w_
      rename World => w_
      go_wp2_with fail
      go_loopw [5, 6] (fun s5 iv wr => ∃ k : Nat, ∃ A' c', k ≤ n2 ∧ iv = .int .i64 k ∧ s5 = .slice A' (k2 + k * 32) c' ∧ Hid (OwnAt wr Z A' (k2 + k * 32) c' ((a2 ++ (ps.take k).flatten).map B)) ∧ Hid (Grow w6 wr)) (fun _ iv _ => n2 - (intOf iv).toNat)
      case atStart => exact ⟨0, A8, c8, by omega, rfl, by simp, Lib.hid (by simpa using HO.out), HG⟩
      case round =>
        obtain ⟨k, A9, c9, hk, rfl, rfl, hO, hG⟩ := hrel
        clear HO HG
        have HO := Lib.hid hO.out; have HG := Lib.hid hG.out
        clear hO hG
        rename World => w_
        have c37 := (HX.out.grow HG.out).blk.at_ IA.out.2.2.2.1
        by_cases hlt : k < n2
        · obtain ⟨b, off, d, rfl, hd, hd32, hbz, hcell⟩ := (HI.out.grow HG.out).key hlt
          have HSN := Lib.hid (flat_take hd)
          have HC := Lib.hid hcell
          have HDG := Lib.hid (dig_map hd32)
          have HAD := Lib.hid (all_bytes d)
          obtain ⟨dv, hdv⟩ : ∃ v, v = d.map B := ⟨_, rfl⟩
          have HDV := Lib.hid hdv
          rw [← hdv] at HC HDG
          obtain ⟨xs, hxs⟩ : ∃ v, v = a2 ++ (ps.take k).flatten := ⟨_, rfl⟩
          have HXS := Lib.hid hxs
          rw [← hxs] at HO
          obtain ⟨kk, hkk⟩ : ∃ v, v = k2 + k * 32 := ⟨_, rfl⟩
          have hkb : kk ≤ 33000 := by omega
          have HKK := Lib.hid hkk
          rw [← hkk] at HO ⊢
          clear hd hd32 hbz hcell hdv hxs hkk
          go_wp2_with (first | (with_reducible refine wpl_loadm (o := ⟨some 44, _, _, _, _, _⟩) rfl rfl row_id HC.out rfl HDG.out.len ?_))
          refine (tbytes_any HDG.out _).mono ?_
          rintro e w2_ ⟨A7, c7, rfl, hs_, hc_, hb_⟩
          have HSL := Lib.hid hs_
          have HO_ := Lib.hid (show OwnAt w2_ Z A9 kk c9 (xs.map B) from HO.out.grow hb_)
          have HG_ := Lib.hid (HG.out.grow' hb_)
          clear hs_ hc_ hb_ c37 HO HG HC
          have HO := HO_; have HG := HG_
          clear HO_ HG_
          have HZB := Lib.hid (show Z ≤ w2_.heap.size by rw [HZ.out]; exact HG.out.size)
          go_wp2_with (at_builtin; refine wpl_apps rfl rfl el_u8 HO.out rfl HSL.out rfl HAD.out (by omega) (by omega) HZB.out ?_)
          intro A10 c10 w3_ ho_ hg_ hA_
          have hst := acc_step HG.out HZ.out HO.out ho_ hg_
          have HO_ := Lib.hid (show OwnAt w3_ Z A10 (k2 + (k + 1) * 32) c10 ((a2 ++ (ps.take (k + 1)).flatten).map B) by
            rw [HSN.out, ← List.append_assoc, ← HXS.out, show k2 + (k + 1) * 32 = kk + 32 by have := HKK.out; omega]; exact hst.1)
          have HG_ := Lib.hid hst.2
          have HNN := Lib.hid (show kk + 32 = k2 + (k + 1) * 32 by have := HKK.out; omega)
          clear ho_ hg_ hA_ hst HO HG HSL HZB
          rw [HNN.out]
          go_wp2_with fail
          go_roundw
          case rel => exact ⟨k + 1, A10, c10, by omega, by go_num, rfl, HO_, HG_⟩
          case measure => simp [intOf]; omega
        · obtain rfl : k = n2 := by omega
          have hfl := HFL.out k (Nat.le_refl _)
          rw [List.take_of_length_le (by rw [HNL.out]; exact Nat.le_refl _)] at hfl
          obtain ⟨a3, ha3⟩ : ∃ v, v = a2 ++ ps.flatten := ⟨_, rfl⟩
          obtain ⟨k3, hk3⟩ : ∃ v, v = k2 + k * 32 := ⟨_, rfl⟩
          have hk3b : k3 ≤ 33000 := by omega
          have HK3 := Lib.hid ha3
          have HO_ := Lib.hid (show OwnAt w_ Z A9 k3 c9 (a3.map B) by have h := HO.out; rw [List.take_of_length_le (by rw [HNL.out]; exact Nat.le_refl _), ← ha3, ← hk3] at h; exact h)
          rw [← hk3]
          clear ha3 hk3 hfl HO
          have HO := HO_
          clear HO_
          have q1 := conv_u64' (n := nh) (by omega)
          go_wp2_with fail
          refine (HRH.out _).mono ?_
          rintro e w2_ ⟨A7, c7, rfl, ho_, hc_, hb_⟩
          have HSL := Lib.hid (Sl.of_own ho_)
          have HO_ := Lib.hid (show OwnAt w2_ Z A9 k3 c9 (a3.map B) from HO.out.grow hb_)
          have HG_ := Lib.hid (HG.out.grow' hb_)
          clear ho_ hc_ hb_ q1 c37 HO HG
          have HO := HO_; have HG := HG_
          clear HO_ HG_
          try clear w_
          rename World => w_
          have HZB := Lib.hid (show Z ≤ w_.heap.size by rw [HZ.out]; exact HG.out.size)
          go_wp2_with (at_builtin; refine wpl_apps rfl rfl el_u8 HO.out rfl HSL.out rfl HA3.out (by omega) (by omega) HZB.out ?_)
          intro A10 c10 w3_ ho_ hg_ hA_
          have hst := acc_step HG.out HZ.out HO.out ho_ hg_
          obtain ⟨k4, hk4⟩ : ∃ k, k = k3 + mh := ⟨_, rfl⟩
          obtain ⟨a4, ha4⟩ : ∃ a, a = a3 ++ numB nh := ⟨_, rfl⟩
          have hk4b : k4 ≤ 34000 := by omega
          rw [← hk4, ← ha4] at hst
          rw [← hk4]
          have HK4 := Lib.hid ha4
          have HO_ := Lib.hid hst.1; have HG_ := Lib.hid hst.2
          clear ho_ hg_ hA_ hst hk4 ha4 HO HG HSL HZB
          have HO := HO_; have HG := HG_
          clear HO_ HG_
          try clear w_
          rename World => w_
          have HSL := Lib.hid (HS4.out.grow HG.out)
          have HZB := Lib.hid (show Z ≤ w_.heap.size by rw [HZ.out]; exact HG.out.size)
          go_wp2_with (at_builtin; refine wpl_apps rfl rfl el_u8 HO.out rfl HSL.out rfl HA2.out (by omega) (by omega) HZB.out ?_)
          intro A11 c11 w3_ ho_ hg_ hA_
          have hst := acc_step HG.out HZ.out HO.out ho_ hg_
          obtain ⟨k5, hk5⟩ : ∃ k, k = k4 + nh := ⟨_, rfl⟩
          obtain ⟨a5, ha5⟩ : ∃ a, a = a4 ++ hb := ⟨_, rfl⟩
          have hk5b : k5 ≤ 35000 := by omega
          rw [← hk5, ← ha5] at hst
          rw [← hk5]
          have HK5 := Lib.hid ha5
          have HO_ := Lib.hid hst.1; have HG_ := Lib.hid hst.2
          clear ho_ hg_ hA_ hst hk5 ha5 HO HG HSL HZB
          have HO := HO_; have HG := HG_
          clear HO_ HG_
          try clear w_
          rename World => w_
          have FMT := Lib.hid (MT.out _ _ _ (HX.out.grow HG.out).blk)
          go_wp2_with (first | (with_reducible refine wpl_loadm (o := ⟨some 58, _, _, _, _, _⟩) rfl rfl row_aid FMT.out rfl DT.out.len ?_))
          refine (tbytes_any DT.out _).mono ?_
          rintro e w2_ ⟨A12, c12, rfl, hs_, hc_, hb_⟩
          have HSL := Lib.hid hs_
          have HO_ := Lib.hid (show OwnAt w2_ Z A11 k5 c11 (a5.map B) from HO.out.grow hb_)
          have HG_ := Lib.hid (HG.out.grow' hb_)
          clear hs_ hc_ hb_ FMT HO HG
          have HO := HO_; have HG := HG_
          clear HO_ HG_
          try clear w_
          rename World => w_
          have HZB := Lib.hid (show Z ≤ w_.heap.size by rw [HZ.out]; exact HG.out.size)
          go_wp2_with (at_builtin; refine wpl_apps rfl rfl el_u8 HO.out rfl HSL.out rfl HA5.out (by omega) (by omega) HZB.out ?_)
          intro A13 c13 w3_ ho_ hg_ hA_
          have hst := acc_step HG.out HZ.out HO.out ho_ hg_
          have HEQ := Lib.hid (show a5 ++ tg = out by rw [HPUT.out, HK5.out, HK4.out, HK3.out, HK2.out, HK1.out])
          rw [HEQ.out] at hst
          have HX6 := Lib.hid (Sl.of_own hst.1)
          have HC6 := Lib.hid (own_cap1 hst.1)
          have HL6 := Lib.hid (show k5 + 32 = out.length by have := HX6.out.len; simpa using this.symm)
          have HB6 := Lib.hid (HB.out.grow' hst.2)
          clear ho_ hg_ hA_ hst HO HG HSL HZB
          go_wp2_with fail
          go_ret
          refine ⟨A13, c13, by rw [← HL6.out]; rfl, ?_, by rw [← HL6.out]; exact HC6.out, HB6.out⟩
          rw [← HL6.out]; exact HX6.out
end Go.Proofs.Ytofhohofaedokaa

/- Contracts of cert.Proves and cert.Make. -/
import Derived.Test.YtiijepimkgaccaaGreatCommandLongRe16
set_option linter.unusedSimpArgs false
set_option linter.unusedVariables false
set_option maxRecDepth 100000
set_option maxHeartbeats 16000000
namespace Go.Proofs.YtiijepimkgaccaaGreat
open Go.RowKit Go.Shelf
def noCer : Cer := ⟨noEnt, [], noHdr, zeroD⟩
theorem noCer_ok : noCer.ok := ⟨noEnt_ok, by simp [noCer], noHdr_ok, by simp [noCer, zeroD]⟩
theorem built_cert0 (parts : List (Nat × Value)) : Tryz.prog.built 43 parts = Instr.fill (fun i => (#[(0, 37), (37, 1), (38, 67), (105, 32)] : Array (Nat × Nat))[i]?) (certV (.slice none 0 0) noCer).toArray parts := by kernel_rfl
theorem built_certE : Tryz.prog.built 43 [] = some (certV (.slice none 0 0) noCer).toArray := by rw [built_cert0]; rfl
theorem zero_cert : (Tryz.prog.info? 43).map (·.zero) = some (some (.agg (certV (.slice none 0 0) noCer).toArray)) := by kernel_rfl
theorem len_cert : (certV (.slice none 0 0) noCer).length = 137 := certV_len noCer_ok
theorem splice_c1 {v : Value} {c : Cer} {e : Ent} (hc : c.ok) (he : e.ok) : splice (certV v c) 0 (entV e) = certV v { c with e := e } := by
 have := splice_mid (pre := ([] : List Value)) (old := entV c.e) (new := entV e) (post := v :: (hdrV c.h ++ c.tag.map B)) (off := 0) rfl (by rw [entV_length hc.1, entV_length he]);exact this
theorem splice_c2 {u v : Value} {c : Cer} (hc : c.ok) : splice (certV v c) 37 [u] = certV u c := by
 have := splice_mid (pre := entV c.e) (old := [v]) (new := [u]) (post := hdrV c.h ++ c.tag.map B) (off := 37) (entV_length hc.1) rfl;exact this
theorem splice_c3 {v : Value} {c : Cer} {h : Hdr} (hc : c.ok) (hh : h.ok) : splice (certV v c) 38 (hdrV h) = certV v { c with h := h } := by
 have := splice_mid (pre := entV c.e ++ [v]) (old := hdrV c.h) (new := hdrV h) (post := c.tag.map B) (off := 38) (by rw [List.length_append, entV_length hc.1]; rfl) (by rw [hdrV_length hc.2.2.1, hdrV_length hh]);simpa [certV] using this
theorem splice_c4 {v : Value} {c : Cer} {d : List UInt8} (hc : c.ok) (hd : d.length = 32) : splice (certV v c) 105 (d.map B) = certV v { c with tag := d } := by
 have := splice_mid (pre := entV c.e ++ v :: hdrV c.h) (old := c.tag.map B) (new := d.map B) (post := ([] : List Value)) (off := 105) (by rw [List.length_append, entV_length hc.1, List.length_cons, hdrV_length hc.2.2.1]) (by rw [List.length_map, List.length_map, hc.2.2.2, hd]);simpa [certV] using this
theorem bt_cert {x : Cer} (hx : x.ok) {A : Option Addr} {n c : Nat} : Tryz.prog.built 43 [(0, .agg (entV x.e).toArray), (1, .slice A n c), (2, .agg (hdrV x.h).toArray), (3, .agg (x.tag.map B).toArray)] = some (certV (.slice A n c) x).toArray := by
 have k1 : ({ noCer with e := x.e } : Cer).ok := ⟨hx.1, noCer_ok.2.1, noCer_ok.2.2.1, noCer_ok.2.2.2⟩;have k3 : ({ noCer with e := x.e, h := x.h } : Cer).ok := ⟨hx.1, noCer_ok.2.1, hx.2.2.1, noCer_ok.2.2.2⟩;have l1 := certV_len (v := .slice none 0 0) noCer_ok;have l2 := certV_len (v := .slice none 0 0) k1;have l3 := certV_len (v := .slice A n c) k1;have l4 := certV_len (v := .slice A n c) k3
 rw [built_cert0, fill_cons (off := 0) (s := 37) (cs := entV x.e) rfl rfl (entV_length hx.1) (by rw [l1]; omega), splice_c1 noCer_ok hx.1,
  fill_cons (off := 37) (s := 1) (cs := [.slice A n c]) rfl rfl rfl (by rw [l2]; omega), splice_c2 k1,
  fill_cons (off := 38) (s := 67) (cs := hdrV x.h) rfl rfl (hdrV_length hx.2.2.1) (by rw [l3]; omega), splice_c3 k1 hx.2.2.1,
  fill_cons (off := 105) (s := 32) (cs := x.tag.map B) rfl rfl (by rw [List.length_map]; exact hx.2.2.2) (by rw [l4]; omega), splice_c4 k3 hx.2.2.2, fill_nil]
 rfl
theorem Ids.off {w w' : World} {A : Option Addr} {n c g : Nat} {ds : List (List UInt8)} (h : Ids w A n c ds) (hg : w.grownBy w' (some g)) (hne : ∀ k, A.map Addr.block = some k → g < k) : Ids w' A n c ds := by
 obtain ⟨⟨h0, h1⟩, h2⟩ := h;refine ⟨⟨h0, fun hn => ?_⟩, h2⟩;obtain ⟨b, off, e, hb, hc⟩ := h1 hn;refine ⟨b, off, e, Nat.lt_of_lt_of_le hb hg.size, fun j u hu => ?_⟩;exact (World.cell?_of_block (hg.block b hb (fun q => by have := hne b (by rw [e]; rfl); injection q with q; omega))).trans (hc j u hu)
open Go.RowKit
section
variable {P : Program} {ops : Array Oper} {rest : List Oper} {o : Oper} {a : Act} {w : World} {Q : Exit → Act → World → Prop}
end
end Go.Proofs.YtiijepimkgaccaaGreat
namespace Go.Proofs.YtiijepimkgaccaaGreat
open Go.RowKit Go.Shelf
def Up (w0 w : World) : Prop := Grow w0 w
theorem Up.grow {w0 w w' : World} (h : Up w0 w) (k : Grow w w') : Up w0 w' := Below.grow' h k
theorem ent_cl {x : Ent} (hx : x.ok) : Cl 37 (entV x) := ⟨entV_length hx, fun u hu => cert_one (.slice none 0 0) rfl ⟨x, [], noHdr, zeroD⟩ u (by simp [certV, hu])⟩
theorem hdr_cl {x : Hdr} (hx : x.ok) : Cl 67 (hdrV x) := ⟨hdrV_length hx, hdr_one x⟩
attribute [local go_sem high] xor_b
end Go.Proofs.YtiijepimkgaccaaGreat
namespace Go.Proofs.YtiijepimkgaccaaGreat
open Go.RowKit Go.Shelf
theorem ptextk_any (g : Nat) (K : Nat → Prop) (xs : List UInt8) {A : Option Addr} {n c : Nat} {bs : List UInt8} (w : World) (h : PenAt w K g xs) (hbn : bs.length = n) (hs : ∀ w', Kept K w w' → Sl w' w'.heap.size 1 A n (bs.map B)) (hl : xs.length + n ≤ 900000) :
  Calls Tryz.prog 23 #[.pointer (some ⟨g, 0, none⟩), .slice A n c] w fun e w' => e = .returned (.tuple #[]) ∧ PenAt w' K g (xs ++ (numB n ++ bs)) ∧ Kept K w w' := by
 have HP := kp h;have HS := kp hs;have HBN := kp hbn;have HU := kp (numB_le (n := n) (by omega));have q1 := conv_u64' (n := n) (by omega);clear h hs hbn
 go_enter Tryz.func23, Tryz.ntmps23
 go_wp2_with fail;refine (num_any g n K xs _ HP.o (by omega) (by omega)).mono ?_;rintro e v_ ⟨rfl, hp_, hk_⟩;have HK := kp hk_;have HS2 := kp (HS.o _ hk_);obtain ⟨ys, hys⟩ := xe (xs ++ numB n);have HYE := kq (ys ++ bs = xs ++ (numB n ++ bs)) (by rw [hys, List.append_assoc]);have HYL := kq (ys.length ≤ xs.length + 9) (by rw [hys, List.length_append]; have := HU.o; omega);rw [← hys] at hp_;obtain ⟨Ap, cp, hq1, hq2, hq3, hq4⟩ := hp_;have HPB := kp hq1;have HPO := kp hq2;have HPK := kp hq3;have HPN := kp hq4;have hcl := hq1.at_ (i := 0) rfl;have hyl := HYL.o;have HONE := kp (all_bytes bs);clear hk_ hq1 hq2 hq3 hq4 HS HP q1 hys;go_wp2_with (first | (at_builtin; refine wpl_apps rfl rfl el_u8 HPO.o rfl HS2.o rfl HONE.o (by omega) (by omega) (Nat.zero_le _) ?_));intro A3 c3 w3_ ho_ hg_ hA_;have hll : (ys ++ bs).length = ys.length + n := by rw [List.length_append, HBN.o]
 have HPB3 := kp (HPB.o.grown hg_ (fun e => (HPN.o e.symm).elim));have HAP := kp (pen_app (ys := ys ++ bs) (A' := A3) (c' := c3) HPB.o HPO.o HPK.o HPN.o (by rw [hll, List.map_append]; exact ho_) hg_ (fun b hb => hA_.elim (fun h => .inl (h.symm.trans hb)) (fun h => .inr (by obtain ⟨a, h1, h2⟩ := h; subst h1; have h3 : a.block = b := Option.some.inj hb; omega))));rw [hll] at HAP;clear ho_ hg_ hA_ hcl hll;have hcl := HPB3.o.at_ (i := 0) rfl;have hfz := HPB3.o.frozen 0;go_wp2_with fail;refine bodyPost_end (results_none rfl _ _ _) rfl ?_;exact ⟨rfl, by rw [← HYE.o]; exact HAP.o.1, HK.o.trans HAP.o.2⟩
def Kz (gp Z : Nat) : Nat → Prop := fun j => j < Z ∧ j ≠ gp
theorem kz_sl {w w' : World} {gp Z n : Nat} {A X : Option Addr} {k c : Nat} {bs : List UInt8} (h : Sl w w.heap.size 1 A n (bs.map B)) (hp : Blk w gp 73 [.slice X k c]) (hk : Kept (Kz gp Z) w w') (hz : w.heap.size ≤ Z) : Sl w' w'.heap.size 1 A n (bs.map B) := by
 refine ⟨h.1, fun hn => ?_⟩;obtain ⟨b, off, e, hb, hc⟩ := h.2 hn
 have hne : b ≠ gp := by
  intro e2;subst e2;have hl : 0 < (bs.map B).length := by have := h.1; omega
  have h0 := hc 0 _ (List.getElem?_eq_getElem hl);rw [Nat.add_zero, hp.cell, List.getElem_map] at h0;cases off with
  | zero => simp [B] at h0
  | succ o => simp at h0
 refine ⟨b, off, e, Nat.lt_of_lt_of_le hb hk.size, fun j u hu => ?_⟩;exact (World.cell?_of_block (a := ⟨b, off + j, none⟩) (hk.block b ⟨by omega, hne⟩)).trans (hc j u hu)
theorem kz_low {w w' : World} {gp Z : Nat} (hk : Kept (Kz gp Z) w w') (hz : gp ≤ Z) : Below gp w w' := hk.below (fun j hj => ⟨by omega, by omega⟩)
theorem kz_at {w w' : World} {gp Z g n : Nat} {T : TypeId} {xs : List Value} (h : At w g T n xs) (hk : Kept (Kz gp Z) w w') (h1 : g < Z) (h2 : g ≠ gp) : At w' g T n xs := ⟨hk.blk h.1 ⟨h1, h2⟩, h.2⟩
theorem kz_pen {w w1 : World} {gp : Nat} {xs : List UInt8} (h : PenAt w (fun j => j < gp) gp xs) (hk : Grow w w1) (hl : gp + 1 = w.heap.size) : PenAt w1 (Kz gp w1.heap.size) gp xs :=
 h.more hk (fun j hj => by
  by_cases hlt : j < gp
  ·exact .inl hlt
  ·exact .inr ⟨by have := hj.2; omega, hj.1⟩)
def putCB (c : Cer) : List UInt8 := numB (eformB c.e).length ++ eformB c.e ++ numB c.path.length ++ c.path.flatten ++ numB (hformB c.h).length ++ hformB c.h ++ c.tag
theorem eformB_le {x : Ent} (h : x.ok) : (eformB x).length ≤ 77 := by
 unfold eformB; split
 ·rename_i h1; exact putEB_len h h1
 ·simp
theorem hformB_le {x : Hdr} (h : x.ok) : (hformB x).length ≤ 91 := by
 unfold hformB; split
 ·rename_i h1; exact putHB_len h h1
 ·simp
theorem flat_32 : ∀ (ds : List (List UInt8)), (∀ d ∈ ds, d.length = 32) → ds.flatten.length = ds.length * 32
 | [], _ => rfl
 | d :: ds, h => by
  rw [List.flatten_cons, List.length_append, h d (by simp), flat_32 ds (fun x hx => h x (by simp [hx])), List.length_cons]; omega
theorem flat_take {ds : List (List UInt8)} {k : Nat} {d : List UInt8} (h : ds[k]? = some d) : (ds.take (k + 1)).flatten = (ds.take k).flatten ++ d := by
 rw [List.take_add_one, h, Option.toList_some, List.flatten_append]; simp
theorem own_lower {w : World} {base base' n c sz : Nat} {e : TypeId} {A : Option Addr} {xs : List Value} (h : w.ownsRow base e sz (.slice A n c) n xs) (k : base' ≤ base) : w.ownsRow base' e sz (.slice A n c) n xs := by
 refine ⟨h.1, ?_⟩;rcases h.2 with h | ⟨b, cap, cur, hv, hle, hr⟩
 ·exact .inl h
 ·exact .inr ⟨b, cap, cur, hv, Nat.le_trans k hle, hr⟩
theorem cputo_any {A2 : Option Addr} {n2 c2 : Nat} {x : Cer} (w : World) (hx : x.ok) (hn : n2 ≤ 1000) (hi : Ids w A2 n2 c2 x.path) :
  Calls Tryz.prog 25 #[.agg (certV (.slice A2 n2 c2) x).toArray] w fun e w' => ∃ A' c', e = .returned (.slice A' (putCB x).length c') ∧ OwnAt w' w.heap.size A' (putCB x).length c' ((putCB x).map B) ∧ (putCB x).length ≤ c' ∧ Below w.heap.size w w' := by
 have HI := kp hi;have HB := kp (Below.refl w.heap.size w);have HE := kp (fun w => eput_any x.e w hx.1); have HH := kp (fun w => hput_any x.h w hx.2.2.1);have LEB := kp (eformB_le hx.1); have LHB := kp (hformB_le hx.2.2.1);have HD := kp (cert_cl (v := .slice A2 n2 c2) rfl hx);have LE := kp (entV_length hx.1); have LH := kp (hdrV_length hx.2.2.1);have DT := kp (dig_map hx.2.2.2);have IA := kp (cert_ats (v := .slice A2 n2 c2) hx);have ME := kp (fun w g t hb => midCE (c := x) (v := .slice A2 n2 c2) (w := w) (g := g) (t := t) hb);have MH := kp (fun w g t hb => midCH (c := x) (v := .slice A2 n2 c2) (w := w) (g := g) (t := t) hx hb);have MT := kp (fun w g t hb => midCT (c := x) (v := .slice A2 n2 c2) (w := w) (g := g) (t := t) hx hb);have HNL := kp hi.2.1
 have HFL := kp (show ∀ k, ((x.path.take k).flatten).length ≤ n2 * 32 from fun k => by
  have h := flat_32 (x.path.take k) (fun d hd => hx.2.1 d (List.mem_of_mem_take hd));have h2 : (x.path.take k).length ≤ n2 := by rw [List.length_take, hi.2.1]; omega
  omega)
 obtain ⟨eb, heb⟩ := xe (eformB x.e);obtain ⟨hb, hhb⟩ := xe (hformB x.h);obtain ⟨ps, hps⟩ := xe x.path;obtain ⟨tg, htg⟩ := xe x.tag;have HPUT := kq (putCB x = numB eb.length ++ eb ++ numB ps.length ++ ps.flatten ++ numB hb.length ++ hb ++ tg) (by rw [heb, hhb, hps, htg]; rfl);obtain ⟨out, hout⟩ := xe (putCB x);rw [← hout] at HPUT ⊢;rw [← heb] at HE LEB;rw [← hhb] at HH LHB;rw [← hps] at HI HNL HFL;rw [← htg] at DT MT;obtain ⟨ne, hne⟩ := xe eb.length;obtain ⟨nh, hnh⟩ := xe hb.length;have HNE := kp hne; have HNH := kp hnh;rw [← hne] at HE LEB HPUT;rw [← hnh] at HH LHB HPUT;rw [HNL.o] at HPUT;obtain ⟨xv, hxv⟩ := xe (certV (.slice A2 n2 c2) x);obtain ⟨ev, hev⟩ := xe (entV x.e);obtain ⟨hv, hhv⟩ := xe (hdrV x.h);obtain ⟨tv, htv⟩ := xe (tg.map B);rw [← hxv] at HD IA ME MH MT ⊢;rw [← hev] at HE LE ME;rw [← hhv] at HH LH MH;rw [← htv] at DT MT;have le9 := numB_le (n := ne) (by have := LEB.o; omega); have lh9 := numB_le (n := nh) (by have := LHB.o; omega); have ln9 := numB_le (n := n2) (by omega);have LNE := kp le9; have LNH := kp lh9; have LN9 := kp ln9;clear hi hx heb hhb hps htg hout hne hnh hxv hev hhv htv le9 lh9 ln9
 go_enter Tryz.func25, Tryz.ntmps25
 obtain ⟨g0, hg0⟩ := xe w.heap.size;go_wp2_with (with_reducible refine wbx 1 ?_);intro v_ b_ y_ hsz2_;have HX_ := kp (at_mk b_ HD.o.len);clear b_ hsz2_;replace HB := kp (HB.o.grow' y_);replace HI := kp (HI.o.grow y_);have HX := HX_;clear y_ HX_;try clear w_
 rename World => w_;go_wp2_with (with_reducible refine wal 3 zero_pen ?_);intro w4 hb4 hbw4 hsz4;obtain ⟨gp, hgp⟩ := xe w_.heap.size;have HG1 := kq (w.heap.size < gp) (by have h1 := HX.o.lt; omega);have HX4 := kp (HX.o.grow hbw4);have HI4 := kp (HI.o.grow hbw4);have HB4 := kp (HB.o.grow' hbw4);rw [← hgp] at hb4 hsz4 ⊢;have HP := kq (PenAt w4 (fun j => j < gp) gp []) (PenAt.new hb4 (fun k hk => by omega));have HPB := kp hb4;have HZ4 := kq (gp + 1 = w4.heap.size) (by omega);clear hb4 hbw4 hsz4 hgp HX HB HI;have HU := kq (Up w4 w4) (Grow.refl _);have HX := HX4; have HI := HI4; have HB := HB4;clear HX4 HI4 HB4;have FME := kp (ME.o _ _ _ HX.o.blk);go_wp2_with (with_reducible refine wlm 12 row_entry FME.o LE.o ?_);refine (HE.o _).mono ?_;rintro e v_ ⟨A3, c3, rfl, hs3, hc3, y_⟩;have HS3 := kp hs3;clear hs3 hc3 FME HE ME;replace HX := kp (HX.o.grow y_);replace HI := kp (HI.o.grow y_);replace HB := kp (HB.o.grow' y_);replace HPB := kp (HPB.o.grow y_);replace HU := kp (HU.o.grow y_);clear y_;rename World => w_;have FMH := kp (MH.o _ _ _ HX.o.blk);go_wp2_with (with_reducible refine wlm 18 row_header FMH.o LH.o ?_);refine (HH.o _).mono ?_;rintro e w6 ⟨A4, c4, rfl, hs4, hc4, y_⟩;have HS4 := kp hs4;clear hs4 hc4 FMH HH MH;have HS3_ := kp (HS3.o.grow y_);have HU_ := kp (HU.o.grow y_);have HX_ := kp (HX.o.grow y_); have HI_ := kp (HI.o.grow y_); have HB_ := kp (HB.o.grow' y_); have HPB_ := kp (HPB.o.grow y_);clear HX HI HB HPB HU HS3 y_;have HX := HX_; have HI := HI_; have HB := HB_; have HPB := HPB_; have HS3 := HS3_;have HPEN := kp (kz_pen HP.o HU_.o HZ4.o);clear HX_ HI_ HB_ HPB_ HS3_ HU_ HP;obtain ⟨Z, hZ⟩ := xe w6.heap.size;have HZZ := kp hZ;have HZG := kq (gp < Z) (by have := HPB.o.lt; omega);rw [← hZ] at HPEN;have HK := kq (Kept (Kz gp Z) w6 w6) (Kept.refl _ _);have HXK := kq (∀ w', Kept (Kz gp Z) w6 w' → At w' w.heap.size 43 137 xv) (fun w' h => kz_at HX.o h (by have h1 := HG1.o; have h2 := HZG.o; omega) (by have h1 := HG1.o; omega));have HBK := kq (∀ w', Kept (Kz gp Z) w6 w' → Below w.heap.size w w') (fun w' h => HB.o.trans ((kz_low h (Nat.le_of_lt HZG.o)).mono (Nat.le_of_lt HG1.o)));have HS3K := kq (∀ w', Kept (Kz gp Z) w6 w' → Sl w' w'.heap.size 1 A3 ne (eb.map B)) (fun w' h => kz_sl HS3.o HPB.o h (by omega));have HS4K := kq (∀ w', Kept (Kz gp Z) w6 w' → Sl w' w'.heap.size 1 A4 nh (hb.map B)) (fun w' h => kz_sl HS4.o HPB.o h (by omega))
 have HIK := kp (show ∀ (w' : World) (k : Nat), Kept (Kz gp Z) w6 w' → k < n2 → ∃ b off d, A2 = some ⟨b, off, none⟩ ∧ ps[k]? = some d ∧ d.length = 32 ∧ ∀ j u, (d.map B)[j]? = some u → w'.cell? ⟨b, off + k * 32 + j, none⟩ = some u from fun w' k h hk => by
  obtain ⟨b, off, d, h1, h2, h3, h4, h5⟩ := HI.o.key hk;refine ⟨b, off, d, h1, h2, h3, fun j u hu => ?_⟩;have h6 := h5 j u hu;by_cases e : b = gp
  ·subst e
   exfalso
   have h7 : 0 < (d.map B).length := by rw [List.length_map, h3]; omega
   have h8 := h5 0 _ (List.getElem?_eq_getElem h7);rw [HPB.o.cell, List.getElem_map] at h8;cases hq : off + k * 32 + 0 with
   | zero => rw [hq] at h8; simp [B] at h8
   | succ o => rw [hq] at h8; simp at h8
  ·exact (World.cell?_of_block (a := ⟨b, off + k * 32 + j, none⟩) (h.block b ⟨by omega, e⟩)).trans h6)
 clear hZ HX HI HB HPB HS3 HS4 HZ4;rename_i w5_;have c37 := (HXK.o _ HK.o).blk.at_ IA.o.2.2.2.1;go_wp2_with fail;refine (ptextk_any gp (Kz gp Z) [] _ HPEN.o HNE.o.symm (fun w' h => HS3K.o w' (HK.o.trans h)) (by have := LEB.o; simp only [List.length_nil]; omega)).mono ?_;rintro e w_ ⟨rfl, hp_, hk_⟩;replace HPEN := kq (PenAt w_ (Kz gp Z) gp (numB ne ++ eb)) hp_;replace HK := kp (HK.o.trans hk_);clear hp_ hk_ c37 HS3K;have c37 := (HXK.o _ HK.o).blk.at_ IA.o.2.2.2.1;have q1 := conv_u64' (n := n2) (by omega);go_wp2_with fail;refine (num_any gp n2 (Kz gp Z) (numB ne ++ eb) _ HPEN.o (by clear q1; rw [List.length_append, ← HNE.o]; have h1 := LNE.o; have h2 := LEB.o; omega) (by clear q1; omega)).mono ?_;rintro e v_ ⟨rfl, hp_, hk_⟩;have HK_ := kp (HK.o.trans hk_);obtain ⟨pre, hpre⟩ := xe (numB ne ++ eb ++ numB n2);have HPRE := kp hpre;have HPL := kq (pre.length ≤ 100) (by rw [hpre, List.length_append, List.length_append, ← HNE.o]; have h1 := LNE.o; have h2 := LEB.o; have h3 := LN9.o; omega);rw [← hpre] at hp_;have HPEN_ := kp hp_;clear hp_ hk_ HPEN HK c37 q1 hpre;have HPEN := HPEN_; have HK := HK_;clear HPEN_ HK_;try clear w_
 rename World => w_;have c37 := (HXK.o _ HK.o).blk.at_ IA.o.2.2.2.1;go_wp2_with fail;go_loopw [32] (fun iv wr => ∃ k : Nat, k ≤ n2 ∧ iv = .int .i64 k ∧ Hid (PenAt wr (Kz gp Z) gp (pre ++ (ps.take k).flatten)) ∧ Hid (Kept (Kz gp Z) w6 wr)) (fun iv _ => n2 - (intOf iv).toNat)
 case atStart => exact ⟨0, by omega, rfl, kp (by simpa using HPEN.o), HK⟩
 case round =>
  obtain ⟨k, hk, rfl, hP, hK⟩ := hrel;clear HPEN HK c37;have HPEN := kp hP.o; have HK := kp hK.o;clear hP hK;rename World => w_;by_cases hlt : k < n2
  ·obtain ⟨b, off, d, rfl, hd, hd32, hcell⟩ := HIK.o _ k HK.o hlt;have HSN := kp (flat_take hd);have HC := kp hcell;have HDG := kp (dig_map hd32);obtain ⟨dv, hdv⟩ := xe (d.map B);rw [← hdv] at HC HDG;obtain ⟨xs, hxs⟩ := xe (pre ++ (ps.take k).flatten);have HXS := kp hxs;have hxl : xs.length ≤ 40000 := by rw [hxs, List.length_append]; have h1 := HPL.o; have h2 := HFL.o k; omega
   rw [← hxs] at HPEN;clear hd hd32 hcell hdv hxs;go_wp2_with (with_reducible first | refine wlm 35 row_id HC.o HDG.o.len ?_ | refine wal 9 zero_id ?_);intro w1_ hb1_ hbw1_ hsz1_;have HB1_ := kp (at_mk hb1_ len_id); have HBW1_ := kp hbw1_; have HZ1_ := kp hsz1_;clear hb1_ hbw1_ hsz1_;go_wp2_with (with_reducible refine wsb row_id HB1_.o.blk HB1_.o.len HDG.o.len HDG.o.one ?_);intro v_ b_ g_ hsz2_;have hgr_ := var_grow HBW1_.o HZ1_.o g_;have HV := kp (at_mk b_ HDG.o.len);have HPEN_ := kp (HPEN.o.grow hgr_);have HZW := kq (Z ≤ w_.heap.size) (by have := HK.o.size; have := HZZ.o; omega);have HK_ := kp (HK.o.trans (Kept.of_grow hgr_ (fun j hj => Nat.lt_of_lt_of_le hj.1 HZW.o)));clear b_ g_ hsz2_ hgr_ HB1_ HBW1_ HZ1_ HPEN HK HC HZW;have HPEN := HPEN_; have HK := HK_;clear HPEN_ HK_;go_wp2_with (with_reducible refine wlb 36 row_id HV.o.blk HV.o.len ?_);refine (pid_any gp (Kz gp Z) xs HDG.o _ HPEN.o (by omega)).mono ?_;rintro e w3_ ⟨rfl, hp_, hk_⟩;have HPN := kq (PenAt w3_ (Kz gp Z) gp (pre ++ (ps.take (k + 1)).flatten)) (by rw [HSN.o, ← List.append_assoc, ← HXS.o]; exact hp_);have HK_ := kp (HK.o.trans hk_);clear hp_ hk_ HPEN HK HV;go_wp2_with fail;go_roundw
   case rel => exact ⟨k + 1, by omega, by go_num, HPN, HK_⟩
   case measure => simp [intOf]; omega
  ·obtain rfl : k = n2 := by omega
   have HPEN_ := kq (PenAt w_ (Kz gp Z) gp (pre ++ ps.flatten)) (by have h := HPEN.o; rw [List.take_of_length_le (by rw [HNL.o]; exact Nat.le_refl _)] at h; exact h);have HFN := kq (ps.flatten.length ≤ k * 32) (by have h := HFL.o k; rw [List.take_of_length_le (by rw [HNL.o]; exact Nat.le_refl _)] at h; exact h);obtain ⟨xs, hxs⟩ := xe (pre ++ ps.flatten);have HXS := kp hxs;have hxl : xs.length ≤ 40000 := by rw [hxs, List.length_append]; have h1 := HPL.o; have h2 := HFN.o; omega
   rw [← hxs] at HPEN_;clear HPEN hxs;have HPEN := HPEN_;clear HPEN_;go_wp2_with fail;refine (ptextk_any gp (Kz gp Z) xs _ HPEN.o HNH.o.symm (fun w' h => HS4K.o w' (HK.o.trans h)) (by have := LHB.o; omega)).mono ?_;rintro e v_ ⟨rfl, hp_, hk_⟩;have HPEN_ := kp hp_;have HK_ := kp (HK.o.trans hk_);clear hp_ hk_ HPEN HK HS4K;have HPEN := HPEN_; have HK := HK_;clear HPEN_ HK_;try clear w_
   rename World => w_;have FMT := kp (MT.o _ _ _ (HXK.o _ HK.o).blk);have HZL := kq ((xs ++ (numB nh ++ hb)).length ≤ 50000) (by rw [List.length_append, List.length_append, ← HNH.o]; have h1 := LNH.o; have h2 := LHB.o; omega);go_wp2_with (with_reducible refine wlm 42 row_aid FMT.o DT.o.len ?_);refine (pid_any gp (Kz gp Z) (xs ++ (numB nh ++ hb)) DT.o _ HPEN.o (by have := HZL.o; omega)).mono ?_;rintro e v_ ⟨rfl, hp_, hk_⟩;have HEQ := kq (xs ++ (numB nh ++ hb) ++ tg = out) (by rw [HPUT.o, HXS.o, HPRE.o]; simp only [List.append_assoc]);rw [HEQ.o] at hp_;have HOL := kq (out.length ≤ 60000) (by rw [← HEQ.o, List.length_append, DT.o.2]; have := HZL.o; omega);have HPEN_ := kp hp_;have HK_ := kp (HK.o.trans hk_);clear hp_ hk_ HPEN HK FMT;have HPEN := HPEN_; have HK := HK_;clear HPEN_ HK_;try clear w_
   rename World => w_;go_wp2_with fail;refine (pbytes_any gp (Kz gp Z) out _ HPEN.o (by have := HOL.o; omega)).mono ?_;rintro e v_ ⟨A6, c6, rfl, ho6, hc6, y_⟩;have HX6 := kp (own_lower ho6 (HBK.o _ HK.o).size);have HC6 := kp hc6;have HB6 := kp ((HBK.o _ HK.o).grow' y_);clear ho6 hc6 y_;go_wp2_with fail;go_ret
   exact ⟨A6, c6, rfl, HX6.o, HC6.o, HB6.o⟩
def lookH (l : List UInt8) : Rd Hdr := match numR 63 l with
 | .error x => .error x
 | .ok (s, l1) => match numR 1099511627776 l1 with
  | .error x => .error x
  | .ok (h, l2) => match numR 1099511627776 l2 with
   | .error x => .error x
   | .ok (ep, l3) => match takeR 32 l3 with
    | .error x => .error x
    | .ok (p, l4) => match takeR 32 l4 with
     | .error x => .error x
     | .ok (r, l5) => .ok (⟨(s : Int), (h : Int), (ep : Int), p, r⟩, l5)
def readH (l : List UInt8) : Except Nat Hdr := match lookH l with
 | .error x => .error x
 | .ok (h, l5) => if l5 = [] ∧ h.height ≠ 0 then .ok h else .error 3
def lookE (l : List UInt8) : Rd Ent := match numR 3 l with
 | .error x => .error x
 | .ok (k, l1) => match numR 63 l1 with
  | .error x => .error x
  | .ok (s, l2) => match takeR 32 l2 with
   | .error x => .error x
   | .ok (t, l3) => match numR 4611686018427387904 l3 with
    | .error x => .error x
    | .ok (a, l4) => match numR 63 l4 with
     | .error x => .error x
     | .ok (y, l5) => match numR 1099511627776 l5 with
      | .error x => .error x
      | .ok (ep, l6) => .ok (⟨(k : Int), (s : Int), t, (a : Int), (y : Int), (ep : Int)⟩, l6)
def readE (l : List UInt8) : Except Nat Ent := match lookE l with
 | .error x => .error x
 | .ok (e, l5) => if l5 = [] ∧ e.kind ≠ 0 then .ok e else .error 3
def errOf {α : Type} : Except Nat α → Nat
 | .error x => x
 | .ok _ => 0
def hdrOf : Except Nat Hdr → Hdr
 | .error _ => noHdr
 | .ok h => h
def entOf : Except Nat Ent → Ent
 | .error _ => noEnt
 | .ok h => h
theorem lookH_ok {l t : List UInt8} {h : Hdr} (e : lookH l = .ok (h, t)) : h.ok ∧ (0 ≤ h.shard ∧ h.shard ≤ 63) ∧ (0 ≤ h.height ∧ h.height ≤ 1099511627776) ∧ (0 ≤ h.epoch ∧ h.epoch ≤ 1099511627776) ∧ t.length ≤ l.length := by
 unfold lookH at e;cases h1 : numR 63 l with
 | error x => rw [h1] at e; simp at e
 | ok p =>
  obtain ⟨s, l1⟩ := p;rw [h1] at e;simp only at e;cases h2 : numR 1099511627776 l1 with
  | error x => rw [h2] at e; simp at e
  | ok p =>
   obtain ⟨h, l2⟩ := p;rw [h2] at e;simp only at e;cases h3 : numR 1099511627776 l2 with
   | error x => rw [h3] at e; simp at e
   | ok p =>
    obtain ⟨ep, l3⟩ := p;rw [h3] at e;simp only at e;cases h4 : takeR 32 l3 with
    | error x => rw [h4] at e; simp at e
    | ok p =>
     obtain ⟨p, l4⟩ := p;rw [h4] at e;simp only at e;cases h5 : takeR 32 l4 with
     | error x => rw [h5] at e; simp at e
     | ok p =>
      obtain ⟨r, l5⟩ := p;rw [h5] at e;simp only at e;injection e with e; injection e with e1 e2
      subst e1; subst e2;have q1 := numR_le h1; have q2 := numR_le h2; have q3 := numR_le h3; have q4 := takeR_le h4; have q5 := takeR_le h5;refine ⟨⟨⟨?_, ?_⟩, ⟨?_, ?_⟩, ⟨?_, ?_⟩, q4.1, q5.1⟩, ⟨?_, ?_⟩, ⟨?_, ?_⟩, ⟨?_, ?_⟩, ?_⟩ <;> (try simp only) <;> omega
theorem readH_right {l : List UInt8} {h : Hdr} (e : readH l = .ok h) : h.ok ∧ rightH h = true := by
 unfold readH at e;split at e
 ·cases e
 ·rename_i h1;split at e
  ·rename_i h2;injection e with e
   subst e;obtain ⟨hk, q1, q2, q3, _⟩ := lookH_ok h1;exact ⟨hk, rightH_iff.2 ⟨q1, ⟨by omega, q2.2⟩, q3⟩⟩
  ·cases e
theorem hdrOf_ok (l : List UInt8) : (hdrOf (readH l)).ok := by
 cases e : readH l with
 | error x => exact noHdr_ok
 | ok h => exact (readH_right e).1
theorem lookE_ok {l t : List UInt8} {h : Ent} (e : lookE l = .ok (h, t)) : h.ok ∧ (0 ≤ h.kind ∧ h.kind ≤ 3) ∧ (0 ≤ h.shard ∧ h.shard ≤ 63) ∧ h.amount ≤ 4611686018427387904 ∧ (0 ≤ h.why ∧ h.why ≤ 63) ∧ (0 ≤ h.epoch ∧ h.epoch ≤ 1099511627776) ∧ t.length ≤ l.length := by
 unfold lookE at e;cases h1 : numR 3 l with
 | error x => rw [h1] at e; simp at e
 | ok p =>
  obtain ⟨k, l1⟩ := p;rw [h1] at e;simp only at e;cases h2 : numR 63 l1 with
  | error x => rw [h2] at e; simp at e
  | ok p =>
   obtain ⟨s, l2⟩ := p;rw [h2] at e;simp only at e;cases h3 : takeR 32 l2 with
   | error x => rw [h3] at e; simp at e
   | ok p =>
    obtain ⟨tx, l3⟩ := p;rw [h3] at e;simp only at e;cases h4 : numR 4611686018427387904 l3 with
    | error x => rw [h4] at e; simp at e
    | ok p =>
     obtain ⟨a, l4⟩ := p;rw [h4] at e;simp only at e;cases h5 : numR 63 l4 with
     | error x => rw [h5] at e; simp at e
     | ok p =>
      obtain ⟨y, l5⟩ := p;rw [h5] at e;simp only at e;cases h6 : numR 1099511627776 l5 with
      | error x => rw [h6] at e; simp at e
      | ok p =>
       obtain ⟨ep, l6⟩ := p;rw [h6] at e;simp only at e;injection e with e; injection e with e1 e2
       subst e1; subst e2;have q1 := numR_le h1; have q2 := numR_le h2; have q3 := takeR_le h3; have q4 := numR_le h4; have q5 := numR_le h5; have q6 := numR_le h6;refine ⟨⟨⟨?_, ?_⟩, ⟨?_, ?_⟩, q3.1, ⟨?_, ?_⟩, ⟨?_, ?_⟩, ⟨?_, ?_⟩⟩, ⟨?_, ?_⟩, ⟨?_, ?_⟩, ?_, ⟨?_, ?_⟩, ⟨?_, ?_⟩, ?_⟩ <;> (try simp only) <;> omega
theorem readE_right {l : List UInt8} {h : Ent} (e : readE l = .ok h) : h.ok ∧ rightE h = true := by
 unfold readE at e;split at e
 ·cases e
 ·rename_i h1;split at e
  ·rename_i h2;injection e with e
   subst e;obtain ⟨hk, q1, q2, q3, q4, q5, _⟩ := lookE_ok h1;exact ⟨hk, rightE_iff.2 ⟨⟨by omega, q1.2⟩, q2, q3, q4, q5⟩⟩
  ·cases e
theorem entOf_ok (l : List UInt8) : (entOf (readE l)).ok := by
 cases e : readE l with
 | error x => exact noEnt_ok
 | ok h => exact (readE_right e).1
theorem lookH_put {h : Hdr} (hk : h.ok) (hr : rightH h = true) (t : List UInt8) : lookH (putHB h ++ t) = .ok (h, t) := by
 obtain ⟨⟨a1, a2⟩, ⟨b1, b2⟩, c1, c2⟩ := rightH_iff.1 hr;obtain ⟨_, _, _, hp, hq⟩ := hk;obtain ⟨s, h, ep, p, r⟩ := h;simp only at a1 a2 b1 b2 c1 c2 hp hq;unfold putHB lookH;simp only [List.append_assoc];rw [numR_put (n := s.toNat) (by omega) (by omega)];simp only;rw [numR_put (n := h.toNat) (by omega) (by omega)];simp only;rw [numR_put (n := ep.toNat) (by omega) (by omega)];simp only;rw [takeR_len hp];simp only;rw [takeR_len hq];simp only [Int.toNat_of_nonneg a1, Int.toNat_of_nonneg c1, Int.toNat_of_nonneg (show 0 ≤ h by omega)]
theorem readH_put {h : Hdr} (hk : h.ok) (hr : rightH h = true) : readH (putHB h) = .ok h := by
 have e := lookH_put hk hr [];rw [List.append_nil] at e;unfold readH;rw [e];simp only;rw [if_pos ⟨by simp, by have := rightH_iff.1 hr; omega⟩]
theorem lookE_put {h : Ent} (hk : h.ok) (hr : rightE h = true) (t : List UInt8) : lookE (putEB h ++ t) = .ok (h, t) := by
 obtain ⟨⟨a1, a2⟩, ⟨b1, b2⟩, c2, ⟨d1, d2⟩, e1, e2⟩ := rightE_iff.1 hr;obtain ⟨_, _, hp, ⟨c1, _⟩, _, _⟩ := hk;obtain ⟨k, s, tx, a, y, ep⟩ := h;simp only at a1 a2 b1 b2 c1 c2 d1 d2 e1 e2 hp;unfold putEB lookE;simp only [List.append_assoc];rw [numR_put (n := k.toNat) (by omega) (by omega)];simp only;rw [numR_put (n := s.toNat) (by omega) (by omega)];simp only;rw [takeR_len hp];simp only;rw [numR_put (n := a.toNat) (by omega) (by omega)];simp only;rw [numR_put (n := y.toNat) (by omega) (by omega)];simp only;rw [numR_put (n := ep.toNat) (by omega) (by omega)];simp only [Int.toNat_of_nonneg b1, Int.toNat_of_nonneg c1, Int.toNat_of_nonneg d1, Int.toNat_of_nonneg e1, Int.toNat_of_nonneg (show 0 ≤ k by omega)]
theorem readE_put {h : Ent} (hk : h.ok) (hr : rightE h = true) : readE (putEB h) = .ok h := by
 have e := lookE_put hk hr [];rw [List.append_nil] at e;unfold readE;rw [e];simp only;rw [if_pos ⟨by simp, by have := rightE_iff.1 hr; omega⟩]
open Go.RowKit
structure Raw where
 eb : List UInt8
 path : List (List UInt8)
 hb : List UInt8
 tag : List UInt8
def idsR : Nat → List UInt8 → Rd (List (List UInt8))
 | 0, l => .ok ([], l)
 | n + 1, l => match idsR n l with
  | .error x => .error x
  | .ok (ds, l1) => match takeR 32 l1 with
   | .error x => .error x
   | .ok (d, l2) => .ok (ds ++ [d], l2)
theorem idsR_ok : ∀ (n : Nat) (l t : List UInt8) (ds : List (List UInt8)), idsR n l = .ok (ds, t) → ds.length = n ∧ (∀ d ∈ ds, d.length = 32) ∧ t.length ≤ l.length
 | 0, l, t, ds, h => by
  unfold idsR at h;injection h with h; injection h with e1 e2
  subst e1; subst e2;exact ⟨rfl, by simp, Nat.le_refl _⟩
 | n + 1, l, t, ds, h => by
  unfold idsR at h;split at h
  ·cases h
  ·rename_i ds1 l1 h1;split at h
   ·cases h
   ·rename_i d l2 h2;injection h with h; injection h with e1 e2
    subst e1; subst e2;obtain ⟨k1, k2, k3⟩ := idsR_ok n _ _ _ h1;have k4 := takeR_le h2;refine ⟨by simp [k1], fun x hx => ?_, by omega⟩;rcases List.mem_append.1 hx with hx | hx
    ·exact k2 x hx
    ·rw [List.mem_singleton.1 hx]; exact k4.1
theorem idsR_err {l : List UInt8} {x k : Nat} (h : idsR k l = .error x) : ∀ d, idsR (k + d) l = .error x
 | 0 => h
 | d + 1 => by rw [← Nat.add_assoc, idsR, idsR_err h d]
theorem idsR_upto {ds : List (List UInt8)} (t : List UInt8) (h : ∀ d ∈ ds, d.length = 32) : ∀ k, k ≤ ds.length → idsR k (ds.flatten ++ t) = .ok (ds.take k, (ds.drop k).flatten ++ t)
 | 0, _ => by simp [idsR]
 | k + 1, hk => by
  have hk' : k < ds.length := by omega
  rw [idsR, idsR_upto t h k (by omega)];simp only;rw [List.drop_eq_getElem_cons hk', List.flatten_cons, List.append_assoc, takeR_len (h _ (List.getElem_mem hk'))];simp only;rw [List.take_add_one, List.getElem?_eq_getElem hk']; rfl
theorem idsR_put (ds : List (List UInt8)) (t : List UInt8) (h : ∀ d ∈ ds, d.length = 32) : idsR ds.length (ds.flatten ++ t) = .ok (ds, t) := by
 rw [idsR_upto t h ds.length (Nat.le_refl _), List.take_length, List.drop_length]; rfl
def lookCe (l : List UInt8) : Rd Raw := match textR 100 l with
 | .error x => .error x
 | .ok (eb, l1) => match numR 32 l1 with
  | .error x => .error x
  | .ok (n, l2) => match idsR n l2 with
   | .error x => .error x
   | .ok (p, l3) => match textR 100 l3 with
    | .error x => .error x
    | .ok (hb, l4) => match takeR 32 l4 with
     | .error x => .error x
     | .ok (t, l5) => .ok (⟨eb, p, hb, t⟩, l5)
def readW (r : Raw) : Except Nat Cer := match readE r.eb with
 | .error x => .error x
 | .ok e => match readH r.hb with
  | .error x => .error x
  | .ok h => .ok ⟨e, r.path, h, r.tag⟩
def readC (l : List UInt8) : Except Nat Cer := match lookCe l with
 | .error x => .error x
 | .ok (r, l5) => if l5 ≠ [] then .error 3 else readW r
def cerOf : Except Nat Cer → Cer
 | .error _ => noCer
 | .ok c => c
theorem lookC_ok {l t : List UInt8} {r : Raw} (h : lookCe l = .ok (r, t)) : r.eb.length ≤ 100 ∧ r.hb.length ≤ 100 ∧ r.path.length ≤ 32 ∧ (∀ d ∈ r.path, d.length = 32) ∧ r.tag.length = 32 := by
 unfold lookCe at h;split at h
 ·cases h
 ·rename_i eb l1 h1;split at h
  ·cases h
  ·rename_i n l2 h2;split at h
   ·cases h
   ·rename_i p l3 h3;split at h
    ·cases h
    ·rename_i hb l4 h4;split at h
     ·cases h
     ·rename_i t' l5 h5;injection h with h; injection h with e1 e2
      subst e1;have k1 := textR_le h1; have k2 := numR_le h2; have k3 := idsR_ok _ _ _ _ h3; have k4 := textR_le h4; have k5 := takeR_le h5;exact ⟨k1.1, k4.1, by simp only; omega, k3.2.1, k5.1⟩
theorem readW_right {r : Raw} {c : Cer} (hr : r.path.length ≤ 32 ∧ (∀ d ∈ r.path, d.length = 32) ∧ r.tag.length = 32) (h : readW r = .ok c) : c.ok ∧ rightE c.e = true ∧ rightH c.h = true ∧ c.path.length ≤ 32 := by
 unfold readW at h;split at h
 ·cases h
 ·rename_i e h1;split at h
  ·cases h
  ·rename_i hh h2;injection h with h
   subst h;have k1 := readE_right h1; have k2 := readH_right h2;exact ⟨⟨k1.1, hr.2.1, k2.1, hr.2.2⟩, k1.2, k2.2, hr.1⟩
theorem readC_right {l : List UInt8} {c : Cer} (h : readC l = .ok c) : c.ok ∧ rightE c.e = true ∧ rightH c.h = true ∧ c.path.length ≤ 32 := by
 unfold readC at h;split at h
 ·cases h
 ·rename_i r l5 h1;split at h
  ·cases h
  ·have k := lookC_ok h1;exact readW_right ⟨k.2.2.1, k.2.2.2.1, k.2.2.2.2⟩ h
theorem cerOf_ok (l : List UInt8) : (cerOf (readC l)).ok := by
 cases h : readC l with
 | error x => exact noCer_ok
 | ok c => exact (readC_right h).1
theorem cerOf_path (l : List UInt8) : (cerOf (readC l)).path.length ≤ 32 := by
 cases h : readC l with
 | error x => simp [cerOf, noCer]
 | ok c => exact (readC_right h).2.2.2
end Go.Proofs.YtiijepimkgaccaaGreat

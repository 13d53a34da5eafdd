/- The given statement LocksPlaySaid, out of the walk locksPlay_walk: for every input the law returns true, and each argument reads as it did. No condition. -/
import Derived.Test.YtolbbhbfbpiljaaLocksPlayB16
import Derived.Test.YtolbbhbfbpiljaaLocksPlayB17
import Derived.Deep.CutRange
import Derived.Test.YtolbbhbfbpiljaaRows
import Derived.ProofKit
import Derived.OpenShut
import Derived.ShutString
import Derived.ChangeOld
import Derived.Below
set_option linter.unusedSimpArgs false
/- The walk of seisinlaw21.LocksPlay. Printed by mkwkplay.py. -/
namespace Go.Proofs.Ytolbbhbfbpiljaa
open Go.RowKit
set_option linter.unusedVariables false
theorem row_neK {w : World} {g b n : Nat} {A : Option Addr} {L X : LocksL} {s : Int} (hc : LocksAt w g b L s) (hr : RowK w A n X) (hn : 0 < n) : ∀ q, A.map Addr.block = some q → q ≠ g ∧ q ≠ b := by
  obtain ⟨q, off, hA, hq, hcell⟩ := hr.1.2 hn
  have hlen := hr.1.1
  intro q' hq'
  rw [hA] at hq'
  obtain rfl : q = q' := by simpa using hq'
  constructor
  · rintro rfl
    obtain ⟨u, hu⟩ : ∃ u, (X.flatMap encAtK)[2]? = some u := ⟨_, List.getElem?_eq_getElem (by omega)⟩
    have h1 := hcell 2 u hu
    have h2 := hc.blk.cell (off + 2)
    rw [h1] at h2
    have h3 : ([Value.map (some b), Value.int .u64 s])[off + 2]? = none := List.getElem?_eq_none (by simp)
    rw [h3] at h2; cases h2
  · rintro rfl
    obtain ⟨u, hu⟩ : ∃ u, (X.flatMap encAtK)[0]? = some u := ⟨_, List.getElem?_eq_getElem (by omega)⟩
    obtain ⟨es, clock, h3, _⟩ := hc.map
    obtain ⟨o, h5, h6⟩ := cells_of_cell (hcell 0 u hu)
    rw [h3] at h5; cases h5; cases h6
theorem RowK.touched {w w' : World} {g b n : Nat} {A : Option Addr} {L X : LocksL} {s : Int} (hr : RowK w A n X) (hc : LocksAt w g b L s) (ht : Touched [g, b] w w') : RowK w' A n X := by
  refine ⟨⟨hr.1.1, fun hn => ?_⟩, hr.2⟩
  obtain ⟨q, off, hA, hq, hcell⟩ := hr.1.2 hn
  have h1 := row_neK hc hr hn q (by rw [hA]; rfl)
  refine ⟨q, off, hA, Nat.lt_of_lt_of_le hq ht.size, fun j u hu => ?_⟩
  exact (World.cell?_of_block (w := w) (ht.block q hq (by simp; exact h1))).trans (hcell j u hu)
theorem At.touchK {w w' : World} {g b q n : Nat} {T : TypeId} {xs : List Value} {L : LocksL} {s : Int} (h : At w q T n xs) (hc : LocksAt w g b L s) (hT : T ≠ 120) (ht : Touched [g, b] w w') : At w' q T n xs := by
  refine ⟨(ht.block q h.lt (by
    simp only [List.mem_cons, List.not_mem_nil, or_false, not_or]
    constructor
    · rintro rfl
      have h1 := hc.blk; have h2 := h.blk
      unfold Blk at h1 h2
      rw [h1] at h2
      injection h2 with h2
      injection h2 with _ h2
      exact hT h2.symm
    · rintro rfl
      obtain ⟨es, clock, h3, _⟩ := hc.map
      have h2 := h.blk
      unfold Blk at h2
      rw [h3] at h2; cases h2)).trans h.blk, h.len⟩
theorem LocksAt.touched {w w' : World} {g b g2 b2 : Nat} {L : LocksL} {s : Int} (h : LocksAt w g2 b2 L s) (ht : Touched [g, b] w w') (h1 : g2 ≠ g ∧ g2 ≠ b) (h2 : b2 ≠ g ∧ b2 ≠ b) : LocksAt w' g2 b2 L s := by
  have hg := h.ltg; have hb := h.ltb
  obtain ⟨q1, ⟨es, clock, q2, q3, q4⟩, q5, q6⟩ := h
  exact ⟨(ht.block g2 hg (by simp; exact h1)).trans q1, ⟨es, clock, (ht.block b2 hb (by simp; exact h2)).trans q2, q3, q4⟩, q5, q6⟩
theorem ht_belowK {w0 w w' : World} {g b : Nat} (hb : Below w0.heap.size w0 w) (ht : Touched [g, b] w w') (h : w0.heap.size ≤ g ∧ w0.heap.size ≤ b) : Below w0.heap.size w0 w' :=
  hb.trans (ht.below (fun k hk => by
    simp only [List.mem_cons, List.not_mem_nil, or_false] at hk
    rcases hk with rfl | rfl
    · exact h.1
    · exact h.2) hb.size)
theorem putQ_after {w : World} {g b : Nat} {X L : LocksL} {s : Int} {p : PtK} {c : CoinV} {id : List UInt8} (hr : RelK X L s) (hp : PtOK p) (hc : LockOK (c, id))
    (h1 : putQ L s p c = 0 → LocksAt w g b (L ++ [(p, (c, id))]) (addE s c.2).1) (h2 : putQ L s p c ≠ 0 → LocksAt w g b L s) : ∃ L' s', LocksAt w g b L' s' ∧ RelK (rputK X p (c, id)).1 L' s' := by
  by_cases h0 : putQ L s p c = 0
  · exact ⟨_, _, h1 h0, hr.put (c := (c, id)) hp hc h0⟩
  · exact ⟨L, s, h2 h0, by rw [rputK_same (by rw [hr.code p (c, id) hc]; exact h0)]; exact hr⟩
def d77 : List UInt8 := 77 :: List.replicate 31 0
theorem d77_len : d77.length = 32 := by simp [d77]
theorem bt_id77 : Try.prog.built 29 [(0, .int .u8 77)] = some (d77.map B).toArray := by kernel_rfl
theorem bt_coin1 : Try.prog.built 54 [(1, .int .u64 1)] = some (coinV (List.replicate 32 0, 1)).toArray := by kernel_rfl
theorem c1_ok : CoinOK (List.replicate 32 0, 1) := ⟨by simp, by simp, by simp⟩
theorem built_atKp (parts : List (Nat × Value)) : Try.prog.built 85 parts = Instr.fill (fun i => (#[(0, 33), (33, 32), (65, 33)] : Array (Nat × Nat))[i]?) (encAtK noAtK).toArray parts := by kernel_rfl
theorem built_atK {p : PtK} {id : List UInt8} {c : CoinV} (hp : PtOK p) (hi : id.length = 32) (hc : CoinOK c) : Try.prog.built 85 [(0, .agg (ptV p).toArray), (1, .agg (id.map B).toArray), (2, .agg (coinV c).toArray)] = some (encAtK (p, (c, id))).toArray := by
  have l1 := ptV_length hp.1; have l2 : (id.map B).length = 32 := by rw [List.length_map, hi]
  have l3 := coinV_length hc
  have z1 := ptV_length ptz_ok.1; have z2 : (noLock.2.map B).length = 32 := by rw [List.length_map, noLock_ok.2]
  have z3 := coinV_length noCoin_ok
  have h1 : splice (encAtK noAtK) 0 (ptV p) = ptV p ++ (noLock.2.map B ++ coinV noCoin) := splice_mid (pre := []) (old := ptV (pt 0)) (post := noLock.2.map B ++ coinV noCoin) rfl (by rw [z1, l1])
  have h2 : splice (ptV p ++ (noLock.2.map B ++ coinV noCoin)) 33 (id.map B) = (ptV p ++ id.map B) ++ (coinV noCoin ++ []) := by
    rw [splice_mid (pre := ptV p) (old := noLock.2.map B) (post := coinV noCoin) l1 (by rw [z2, l2])]; simp
  have h3 : splice ((ptV p ++ id.map B) ++ (coinV noCoin ++ [])) 65 (coinV c) = encAtK (p, (c, id)) := by
    rw [splice_mid (pre := ptV p ++ id.map B) (old := coinV noCoin) (post := []) (by rw [List.length_append, l1, l2]) (by rw [z3, l3])]
    unfold encAtK refV; simp
  rw [built_atKp, fill_cons (off := 0) (s := 33) (cs := ptV p) rfl rfl l1 (by rw [encAtK_len noAtK_ok]; omega), h1,
    fill_cons (off := 33) (s := 32) (cs := id.map B) rfl rfl l2 (by simp only [List.length_append, l1, z2, z3]; omega), h2,
    fill_cons (off := 65) (s := 33) (cs := coinV c) rfl rfl l3 (by simp only [List.length_append, List.length_nil, l1, l2, z3]; omega), h3, fill_nil]
def PlayK (w0 w : World) (v3 v4 : Value) : Prop := ∃ g b X L s A m c, v3 = .pointer (some ⟨g, 0, none⟩) ∧ v4 = .slice A m c ∧ LocksAt w g b L s ∧ RelK X L s ∧ RowK w A m X ∧ (w0.heap.size ≤ g ∧ w0.heap.size ≤ b) ∧ Below w0.heap.size w0 w
theorem PlayK.grow {w0 w w' : World} {v3 v4 : Value} (h : PlayK w0 w v3 v4) (k : Below w.heap.size w w') : PlayK w0 w' v3 v4 := by
  obtain ⟨g, b, X, L, s, A, m, c, h1, h2, h3, h4, h5, h6, h7⟩ := h
  exact ⟨g, b, X, L, s, A, m, c, h1, h2, h3.call k, h4, h5.call k, h6, h7.grow' k⟩
theorem encAtK_c0 {e : PtK × LockV} (h : AtOKK e) {j : Nat} {u : Value} (hu : (coinV e.2.1)[j]? = some u) : (encAtK e)[65 + j]? = some u := by
  have h3 : (e.2.2.map B).length = 32 := by rw [List.length_map, h.2.2]
  have h1 := encAtK_ref h (j := 32 + j) (u := u) (by unfold refV; rw [List.getElem?_append_right (by omega), h3, show 32 + j - 32 = j by omega]; exact hu)
  rwa [← Nat.add_assoc] at h1
set_option maxRecDepth 100000 in
set_option maxHeartbeats 16000000 in
theorem locksPlay_walk (A : Option Addr) (n c : Nat) (l : List ActK) (w : World) (h : ActsK w A n l) (hn : n ≤ 9223372036854775807) :
    Calls Try.prog 8 #[.slice A n c] w fun e w' => e = .returned (.bool true) ∧ Below w.heap.size w w' := by
  have HA := Lib.hid h
  clear h
  by_cases h60 : 50 < n
  · go_enter Try.func8, Try.ntmps8
    have h61 : (50 : Int) < (n : Int) := by omega
    go_wp2_with fail
    refine (awake21_any _).mono ?_
    rintro e w9 ⟨rfl, hb9⟩
    go_wp2_with fail
    go_ret
    exact ⟨rfl, hb9⟩
  have h61 : ¬ ((50 : Int) < (n : Int)) := by omega
  go_enter Try.func8, Try.ntmps8
  go_wp2_with fail
  refine (knew_any _).mono ?_
  rintro e w1 ⟨g, b, rfl, hc, hg, hb, hbw⟩
  have HI0 := Lib.hid (show PlayK w w1 (.pointer (some ⟨g, 0, none⟩)) (.slice none 0 0) from ⟨g, b, [], [], 0, none, 0, 0, rfl, rfl, hc, RelK.nil, ⟨Sl.nil, by simp, rfl⟩, ⟨hg, hb⟩, hbw⟩)
  clear hc hg hb hbw
  go_wp2_with fail
  go_loopw [3, 4, 5] (fun s3 s4 iv wr => ∃ k : Nat, k ≤ n ∧ iv = .int .i64 k ∧ Hid (PlayK w wr s3 s4)) (fun _ _ iv _ => n - (intOf iv).toNat)
  case atStart => exact ⟨0, by omega, rfl, HI0⟩
  case round =>
    obtain ⟨k, hk, rfl, hI⟩ := hrel
    clear HI0
    rename World => w_
    by_cases hlt : k < n
    · obtain ⟨g, b, X, L, s, A4, m, c4, rfl, rfl, hc, hr, hx, hgb, hbw⟩ := hI.out
      have HC := Lib.hid hc; have HR := Lib.hid hr; have HX := Lib.hid hx; have HGB := Lib.hid hgb; have HB := Lib.hid hbw
      have hm64 : m ≤ 64 := by rw [← hx.2.2, hr.lenX]; exact hr.len
      clear hI hc hr hx hgb hbw
      obtain ⟨ab, aoff, ⟨d, p, id, v⟩, rfl, hak, hcell, hok⟩ := HA.out.at_ hlt
      have HAC := Lib.hid (show Cl 99 (actK (d, p, id, v)) from ⟨actK_len hok, fun u hu => by
        unfold actK at hu
        rcases List.mem_cons.1 hu with rfl | hu
        · rfl
        · rcases List.mem_append.1 hu with hu | hu
          · exact ptV_one p u hu
          · rcases List.mem_append.1 hu with hu | hu
            · exact mapB_one _ u hu
            · exact coinV_one v u hu⟩)
      have HMA := Lib.hid (show ∀ j u, (actK (d, p, id, v))[j]? = some u → w_.cell? ⟨ab, aoff + k * 99 + j, none⟩ = some u from fun j u hu => bcell HB.out (hcell j u hu))
      have HDO := Lib.hid (show (actK (d, p, id, v))[0]? = some (.int .i64 d) from rfl)
      have HMP := Lib.hid (fun j u (hu : (ptV p)[j]? = some u) => actK_pt (a := (d, p, id, v)) hu)
      have HMI := Lib.hid (fun j u (hu : (id.map B)[j]? = some u) => actK_id (a := (d, p, id, v)) hok hu)
      have HMV := Lib.hid (fun j u (hu : (coinV v)[j]? = some u) => actK_coin (a := (d, p, id, v)) hok hu)
      have HPO := Lib.hid hok.1; have HVO := Lib.hid (show LockOK (v, id) from ⟨hok.2.2, hok.2.1⟩)
      have HPC := Lib.hid (ptV_cl hok.1); have HVC := Lib.hid (coinV_cl hok.2.2); have HIC := Lib.hid (aidV_cl hok.2.1)
      have HBT := Lib.hid (built_atK hok.1 hok.2.1 hok.2.2)
      have hwo : AtOKK (getK X p) := getK_ok hok.1 HR.out.okX
      have hw2 : (getK X p).2 = (lookL L p).getD noLock := by rw [getK_two, HR.out.look]
      have HWC := Lib.hid (encAtK_cl hwo); have HWS := Lib.hid (coin_self _ hwo.2.1); have HWI := Lib.hid (aid_self0 _ hwo.2.2)
      have HCC := Lib.hid (coinV_cl hwo.2.1); have HIW := Lib.hid (aidV_cl hwo.2.2)
      have HWM := Lib.hid (fun j u (hu : (coinV (getK X p).2.1)[j]? = some u) => encAtK_c0 hwo hu)
      have HWN := Lib.hid (fun j u (hu : ((getK X p).2.2.map B)[j]? = some u) => encAtK_for0 hwo hu)
      have HRG := Lib.hid (fun w' (h' : RowK w' A4 m X) => show Calls Try.prog 36 #[.slice A4 m c4, .agg (ptV p).toArray] w' fun e w'' => e = .returned (.tuple #[.agg (encAtK (getK X p)).toArray, .bool (lookL L p).isSome]) ∧ Below w'.heap.size w' w'' from by
        have := rget21_any (c := c4) p w' h' hok.1 (by omega); rw [HR.out.look] at this; exact this)
      have HRP := Lib.hid (fun w' (h' : RowK w' A4 m X) => rput21_any (c := c4) p (v, id) w' h' hok.1 HVO.out hm64 (by rw [HR.out.amt]; exact HR.out.max))
      have HPU := Lib.hid (fun w' (h' : LocksAt w' g b L s) => kput_any g b L s p id v w' h' hok.1 hok.2.1 hok.2.2 HR.out.nn HR.out.max)
      have HPU3 := Lib.hid (fun w' (h' : LocksAt w' g b L s) => kput_any g b L s p d77 (List.replicate 32 0, 1) w' h' hok.1 d77_len c1_ok HR.out.nn HR.out.max)
      have HRT := Lib.hid (fun w' (h' : RowK w' A4 m X) => rfree21_any (c := c4) p w' h' hok.1 (by omega))
      have HTK := Lib.hid (fun w' (h' : LocksAt w' g b L s) => kfree_any g b L s p w' h' hok.1 (by have := HR.out.max; omega) (HR.out.amtp p).2)
      have HGT := Lib.hid (fun w' (h' : LocksAt w' g b L s) => kget_any g b L s p w' h' hok.1)
      have HTQ := Lib.hid (fun w' g1 b1 X1 L1 s1 (h' : LocksAt w' g1 b1 L1 s1) (hr' : RelK X1 L1 s1) => kfree_any g1 b1 L1 s1 p w' h' hok.1 (by have := hr'.max; omega) (hr'.amtp p).2)
      have HOF := Lib.hid (fun w' (h' : LocksAt w' g b L s) => of_sp HR.out (id := id) hok.2.1 w' h')
      have HRO := Lib.hid (fun w' (h' : RowK w' A4 m X) => rof_sp (c := c4) (id := id) w' h' hok.2.1 (by omega))
      have HCD := Lib.hid (HR.out.code p (v, id) HVO.out)
      have hq : (ofK X id).length ≤ 1000000 := by have := ofK_len X id; have := HX.out.2.2; omega
      obtain ⟨pl, hpl⟩ : ∃ q, q = ofK X id := ⟨_, rfl⟩
      rw [← hpl] at HOF HRO hq
      obtain ⟨q, hqq⟩ : ∃ q, q = pl.length := ⟨_, rfl⟩
      rw [← hqq] at HOF HRO hq
      have HQ := Lib.hid hq
      unfold ptA at HPU HPU3 HRT HTK HGT HTQ
      unfold coinA at HPU HPU3 HTK HGT HTQ
      rw [← hw2] at HTK HGT
      obtain ⟨rc, hrc⟩ : ∃ q, q = putQ L s p v := ⟨_, rfl⟩
      rw [← hrc] at HCD HPU
      obtain ⟨Xn, hXn⟩ : ∃ q, q = (rputK X p (v, id)).1 := ⟨_, rfl⟩
      have hpr : rputK X p (v, id) = (Xn, rc) := Prod.ext hXn.symm HCD.out
      rw [hpr] at HRP
      have HXN := Lib.hid hXn
      have HRC := Lib.hid hrc
      obtain ⟨th, hth⟩ : ∃ q, q = (lookL L p).isSome := ⟨_, rfl⟩
      rw [← hth] at HRG HTK HGT
      obtain ⟨cs, hcs⟩ : ∃ q, q = coinV (getK X p).2.1 := ⟨_, rfl⟩
      obtain ⟨ws, hws⟩ : ∃ q, q = (getK X p).2.2.map B := ⟨_, rfl⟩
      obtain ⟨wv, hwv⟩ : ∃ q, q = encAtK (getK X p) := ⟨_, rfl⟩
      rw [← hcs] at HTK HGT HCC HWS HWM
      rw [← hws] at HGT HIW HWI HWN
      rw [← hwv] at HRG HWC HWM HWN
      obtain ⟨av, hav⟩ : ∃ q, q = actK (d, p, id, v) := ⟨_, rfl⟩
      rw [← hav] at HAC HMA HDO HMP HMV HMI
      obtain ⟨es, hes⟩ : ∃ q, q = ptV p := ⟨_, rfl⟩
      obtain ⟨vs, hvs⟩ : ∃ q, q = coinV v := ⟨_, rfl⟩
      obtain ⟨is, his⟩ : ∃ q, q = id.map B := ⟨_, rfl⟩
      obtain ⟨ys, hys⟩ : ∃ q, q = encAtK (p, (v, id)) := ⟨_, rfl⟩
      obtain ⟨c3, hc3⟩ : ∃ q, q = (coinV (List.replicate 32 0, 1)) := ⟨_, rfl⟩
      obtain ⟨i7, hi7⟩ : ∃ q, q = d77.map B := ⟨_, rfl⟩
      have HB3 := Lib.hid (show Try.prog.built 54 [(1, .int .u64 1)] = some c3.toArray by rw [hc3]; exact bt_coin1)
      have HB7 := Lib.hid (show Try.prog.built 29 [(0, .int .u8 77)] = some i7.toArray by rw [hi7]; exact bt_id77)
      rw [← hes] at HMP HPC HRG HPU HPU3 HRT HTK HGT HTQ HBT
      rw [← hvs] at HMV HVC HPU HBT
      rw [← his] at HMI HIC HPU HOF HRO HBT
      rw [← hys] at HBT HRP
      rw [← hc3, ← hi7] at HPU3
      clear hak hcell hok hrc hth hcs hws hwv hav hes hvs hc3 hXn hpr his hys hi7 hwo hw2 hq hpl hqq
      go_wp2_with (first | (with_reducible refine wpl_loadm (o := ⟨some 33, _, _, _, _, _⟩) rfl rfl row_actk HMA.out rfl HAC.out.len ?_) | (with_reducible refine wpl_alloc (o := ⟨some 6, _, _, _, _, _⟩) rfl rfl zero_actk ?_))
      intro w1_ hb1_ hbw1_ hsz1_
      have HB1_ := Lib.hid (at_mk hb1_ len_actk)
      have HBW1_ := Lib.hid hbw1_
      have HZ1_ := Lib.hid hsz1_
      clear hb1_ hbw1_ hsz1_
      go_wp2_with (first | (with_reducible refine wpl_storeb (o := ⟨none, .store _ _ _, _, _, _, _⟩) rfl rfl row_actk HB1_.out.blk rfl rfl HB1_.out.len HAC.out.len HAC.out.one ?_))
      intro w2_ hb2_ hg2_ hsz2_
      have hb_ := var_grow HBW1_.out HZ1_.out hg2_
      have HX_ := Lib.hid (at_mk hb2_ HAC.out.len)
      clear hb2_ hg2_ hsz2_ HB1_ HBW1_ HZ1_
      have HB_ := Lib.hid (HB.out.grow' hb_)
      clear HB
      have HB := HB_
      clear HB_
      have HC_ := Lib.hid (HC.out.grow hb_)
      clear HC
      have HC := HC_
      clear HC_
      have HX_ := Lib.hid (HX.out.grow hb_)
      clear HX
      have HX := HX_
      clear HX_
      generalize hg_ : w_.heap.size = gA at HX_ ⊢
      clear hg_
      have HD := HX_
      clear hb_ HX_
      clear w1_
      try clear w_
      rename World => w_
      clear HMA
      have HP1 := Lib.hid (show ∀ w', At w' gA 83 99 av → ∀ j u, es[j]? = some u → w'.cell? ⟨gA, 1 + j, none⟩ = some u from fun w' h j u hu => h.blk.at_ (HMP.out j u hu))
      have HI34 := Lib.hid (show ∀ w', At w' gA 83 99 av → ∀ j u, is[j]? = some u → w'.cell? ⟨gA, 34 + j, none⟩ = some u from fun w' h j u hu => h.blk.at_ (HMI.out j u hu))
      have HV66 := Lib.hid (show ∀ w', At w' gA 83 99 av → ∀ j u, vs[j]? = some u → w'.cell? ⟨gA, 66 + j, none⟩ = some u from fun w' h j u hu => h.blk.at_ (HMV.out j u hu))
      clear HMP HMV HMI
      have HM_ := Lib.hid (HP1.out w_ HD.out)
      go_wp2_with (first | (with_reducible refine wpl_loadm (o := ⟨some 37, _, _, _, _, _⟩) rfl rfl row_point HM_.out rfl HPC.out.len ?_))
      refine (HRG.out w_ HX.out).mono ?_
      rintro e w_ ⟨rfl, hb_⟩
      have HB_ := Lib.hid (HB.out.grow' hb_)
      clear HB
      have HB := HB_
      clear HB_
      have HC_ := Lib.hid (HC.out.grow hb_)
      clear HC
      have HC := HC_
      clear HC_
      have HX_ := Lib.hid (HX.out.grow hb_)
      clear HX
      have HX := HX_
      clear HX_
      have HD_ := Lib.hid (HD.out.grow hb_)
      clear HD
      have HD := HD_
      clear HD_
      clear hb_
      clear HM_ HRG
      go_wp2_with (first | (with_reducible refine wpl_alloc (o := ⟨some 7, _, _, _, _, _⟩) rfl rfl zero_atk ?_))
      intro w1_ hb1_ hbw1_ hsz1_
      have HB1_ := Lib.hid (at_mk hb1_ len_atk)
      have HBW1_ := Lib.hid hbw1_
      have HZ1_ := Lib.hid hsz1_
      clear hb1_ hbw1_ hsz1_
      go_wp2_with (first | (with_reducible refine wpl_storeb (o := ⟨none, .store _ _ _, _, _, _, _⟩) rfl rfl row_atk HB1_.out.blk rfl rfl HB1_.out.len HWC.out.len HWC.out.one ?_))
      intro w2_ hb2_ hg2_ hsz2_
      have hb_ := var_grow HBW1_.out HZ1_.out hg2_
      have HX_ := Lib.hid (at_mk hb2_ HWC.out.len)
      clear hb2_ hg2_ hsz2_ HB1_ HBW1_ HZ1_
      have HB_ := Lib.hid (HB.out.grow' hb_)
      clear HB
      have HB := HB_
      clear HB_
      have HC_ := Lib.hid (HC.out.grow hb_)
      clear HC
      have HC := HC_
      clear HC_
      have HX_ := Lib.hid (HX.out.grow hb_)
      clear HX
      have HX := HX_
      clear HX_
      have HD_ := Lib.hid (HD.out.grow hb_)
      clear HD
      have HD := HD_
      clear HD_
      generalize hg_ : w_.heap.size = gW at HX_ ⊢
      clear hg_
      have HW := HX_
      clear hb_ HX_
      clear w1_
      try clear w_
      rename World => w_
      have c0 := HD.out.blk.at_ HDO.out
      go_upto_block 2 with fail
      clear c0
      go_cut [3, 4, 9, 10, 11, 12, 13, 14, 15, 16] from 43 to 141 (fun s3 s4 s9 s10 s11 s12 s13 s14 s15 s16 wr => Hid (PlayK w wr s3 s4))
      case first =>
        by_cases hd0 : d = 0
        · subst hd0
          have HM1 := Lib.hid (HP1.out w_ HD.out); have HM2 := Lib.hid (HI34.out w_ HD.out); have HM3 := Lib.hid (HV66.out w_ HD.out)
          go_wp2_with (first | (with_reducible refine wpl_loadm (o := ⟨some 48, _, _, _, _, _⟩) rfl rfl row_point HM1.out rfl HPC.out.len ?_) | (with_reducible refine wpl_loadm (o := ⟨some 50, _, _, _, _, _⟩) rfl rfl row_idk HM2.out rfl HIC.out.len ?_) | (with_reducible refine wpl_loadm (o := ⟨some 52, _, _, _, _, _⟩) rfl rfl row_coin HM3.out rfl HVC.out.len ?_) | (with_reducible refine wpl_stop (o := ⟨some 53, _, _, _, _, _⟩) ?_))
          refine stop_go ?_
          refine wpl_build rfl rfl HBT.out ?_
          go_wp2_with fail
          refine (HRP.out w_ HX.out).mono ?_
          rintro e w2_ ⟨A9, m9, c9, rfl, hx9, hb_⟩
          have HX9 := Lib.hid hx9
          replace HC := Lib.hid (HC.out.grow hb_); replace HD := Lib.hid (HD.out.grow hb_); replace HB := Lib.hid (HB.out.grow' hb_)
          clear hx9 hb_ HM1 HM2 HM3
          try clear w_
          rename World => w_
          have HM1 := Lib.hid (HP1.out w_ HD.out); have HM2 := Lib.hid (HI34.out w_ HD.out); have HM3 := Lib.hid (HV66.out w_ HD.out)
          have z1 : (rc != rc) = false := by simp
          go_wp2_with (first | (with_reducible refine wpl_loadm (o := ⟨some 60, _, _, _, _, _⟩) rfl rfl row_point HM1.out rfl HPC.out.len ?_) | (with_reducible refine wpl_loadm (o := ⟨some 62, _, _, _, _, _⟩) rfl rfl row_idk HM2.out rfl HIC.out.len ?_) | (with_reducible refine wpl_loadm (o := ⟨some 64, _, _, _, _, _⟩) rfl rfl row_coin HM3.out rfl HVC.out.len ?_))
          refine Calls.mono (show Calls Try.prog 19 _ w_ _ from HPU.out w_ HC.out) ?_
          rintro e w2_ ⟨rfl, ht, h1, h2⟩
          have HEND := Lib.hid (show PlayK w w2_ (.pointer (some ⟨g, 0, none⟩)) (.slice A9 m9 c9) by
            obtain ⟨L', s', q1, q2⟩ := putQ_after HR.out HPO.out HVO.out (by rw [← HRC.out]; exact h1) (by rw [← HRC.out]; exact h2)
            rw [← HXN.out] at q2
            exact ⟨g, b, _, L', s', A9, m9, c9, rfl, rfl, q1, q2, HX9.out.touched HC.out ht, HGB.out, ht_belowK HB.out ht HGB.out⟩)
          clear ht h1 h2 HM1 HM2 HM3
          go_wp2_with fail
          go_meet
          case rel => exact HEND
        have hd0f := eq_false hd0
        have HWC1 := Lib.hid (show ∀ w', At w' gW 85 98 wv → ∀ j u, cs[j]? = some u → w'.cell? ⟨gW, 65 + j, none⟩ = some u from fun w' h j u hu => h.blk.at_ (HWM.out j u hu))
        by_cases hd1 : d = 1
        · subst hd1
          have HM1 := Lib.hid (HP1.out w_ HD.out)
          go_wp2_with (first | (with_reducible refine wpl_loadm (o := ⟨some 72, _, _, _, _, _⟩) rfl rfl row_point HM1.out rfl HPC.out.len ?_))
          refine (HRT.out w_ HX.out).mono ?_
          rintro e w2_ ⟨A9, m9, c9, rfl, hx9, hb_⟩
          have HX9 := Lib.hid hx9
          replace HC := Lib.hid (HC.out.grow hb_); replace HD := Lib.hid (HD.out.grow hb_); replace HW := Lib.hid (HW.out.grow hb_); replace HB := Lib.hid (HB.out.grow' hb_)
          clear hx9 hb_ HM1
          try clear w_
          rename World => w_
          have HM1 := Lib.hid (HP1.out w_ HD.out)
          go_wp2_with (first | (with_reducible refine wpl_loadm (o := ⟨some 77, _, _, _, _, _⟩) rfl rfl row_point HM1.out rfl HPC.out.len ?_))
          refine Calls.mono (show Calls Try.prog 24 _ w_ _ from HTK.out w_ HC.out) ?_
          rintro e w2_ ⟨rfl, ht, h1⟩
          have hamt : ((lookL L p).getD noLock).1.2 = (getK X p).2.1.2 := by rw [getK_two, HR.out.look]
          have HEND := Lib.hid (show PlayK w w2_ (.pointer (some ⟨g, 0, none⟩)) (.slice A9 m9 c9) from ⟨g, b, _, _, _, A9, m9, c9, rfl, rfl, h1, by rw [← hamt]; exact HR.out.take p, HX9.out.touched HC.out ht, HGB.out, ht_belowK HB.out ht HGB.out⟩)
          replace HW := Lib.hid (HW.out.touchK HC.out (by decide) ht)
          clear ht h1 HM1 HB HC HD HX9 HX hamt
          obtain ⟨wz, hwz⟩ : ∃ q, q = w2_ := ⟨_, rfl⟩
          have HB := Lib.hid (show Below wz.heap.size wz w2_ by rw [hwz]; exact Below.refl _ _)
          rw [← hwz] at HEND
          clear hwz
          try clear w_
          rename World => w_
          go_wp2_with (first | (with_reducible refine wpl_alloc (o := ⟨some 11, _, _, _, _, _⟩) rfl rfl zero_coin ?_))
          intro w1_ hb1_ hbw1_ hsz1_
          have HB1_ := Lib.hid (at_mk hb1_ len_coin)
          have HBW1_ := Lib.hid hbw1_
          have HZ1_ := Lib.hid hsz1_
          clear hb1_ hbw1_ hsz1_
          go_wp2_with (first | (with_reducible refine wpl_storeb (o := ⟨none, .store _ _ _, _, _, _, _⟩) rfl rfl row_coin HB1_.out.blk rfl rfl HB1_.out.len HCC.out.len HCC.out.one ?_))
          intro w2_ hb2_ hg2_ hsz2_
          have hb_ := var_grow HBW1_.out HZ1_.out hg2_
          have HX_ := Lib.hid (at_mk hb2_ HCC.out.len)
          clear hb2_ hg2_ hsz2_ HB1_ HBW1_ HZ1_
          have HB_ := Lib.hid (HB.out.grow' hb_)
          clear HB
          have HB := HB_
          clear HB_
          have HW_ := Lib.hid (HW.out.grow hb_)
          clear HW
          have HW := HW_
          clear HW_
          generalize hg_ : w_.heap.size = gY at HX_ ⊢
          clear hg_
          have HY := HX_
          clear hb_ HX_
          clear w1_
          try clear w_
          rename World => w_
          have heq := HWS.out
          have z1 : (th != th) = false := by simp
          have HM4 := Lib.hid (HWC1.out w_ HW.out)
          go_wp2_with (first | (with_reducible refine wpl_loadb (o := ⟨some 81, _, _, _, _, _⟩) rfl rfl row_coin HY.out.blk rfl HY.out.len ?_) | (with_reducible refine wpl_loadm (o := ⟨some 83, _, _, _, _, _⟩) rfl rfl row_coin HM4.out rfl HCC.out.len ?_))
          go_meet
          case rel => exact Lib.hid (PlayK.grow HEND.out HB.out)
        have hd1f := eq_false hd1
        have HPL := Lib.hid (show ∀ w', LocksAt w' g b L s → RowK w' A4 m X → Below w.heap.size w w' → PlayK w w' (.pointer (some ⟨g, 0, none⟩)) (.slice A4 m c4) from fun w' h1 h2 h3 => ⟨g, b, X, L, s, A4, m, c4, rfl, rfl, h1, HR.out, h2, HGB.out, h3⟩)
        by_cases hd2 : d = 2
        · subst hd2
          have HWI1 := Lib.hid (show ∀ w', At w' gW 85 98 wv → ∀ j u, ws[j]? = some u → w'.cell? ⟨gW, 33 + j, none⟩ = some u from fun w' h j u hu => h.blk.at_ (HWN.out j u hu))
          have HM1 := Lib.hid (HP1.out w_ HD.out)
          go_wp2_with (first | (with_reducible refine wpl_loadm (o := ⟨some 95, _, _, _, _, _⟩) rfl rfl row_point HM1.out rfl HPC.out.len ?_))
          refine Calls.mono (show Calls Try.prog 25 _ w_ _ from HGT.out w_ HC.out) ?_
          rintro e w_ ⟨rfl, hb_⟩
          have HB_ := Lib.hid (HB.out.grow' hb_)
          clear HB
          have HB := HB_
          clear HB_
          have HC_ := Lib.hid (HC.out.grow hb_)
          clear HC
          have HC := HC_
          clear HC_
          have HX_ := Lib.hid (HX.out.grow hb_)
          clear HX
          have HX := HX_
          clear HX_
          have HW_ := Lib.hid (HW.out.grow hb_)
          clear HW
          have HW := HW_
          clear HW_
          have HD_ := Lib.hid (HD.out.grow hb_)
          clear HD
          have HD := HD_
          clear HD_
          clear hb_
          clear HM1
          obtain ⟨wy, hwy⟩ : ∃ q, q = w_ := ⟨_, rfl⟩
          have HB0 := Lib.hid (show Below wy.heap.size wy w_ by rw [hwy]; exact Below.refl _ _)
          rw [← hwy] at HC HX HB
          clear hwy
          have HBO := HB
          clear HB
          have HB := HB0
          clear HB0
          go_wp2_with (first | (with_reducible refine wpl_alloc (o := ⟨some 13, _, _, _, _, _⟩) rfl rfl zero_idk ?_))
          intro w2_ hb2_ hb_ hsz2_
          have HX_ := Lib.hid (at_mk hb2_ len_idk)
          clear hb2_ hsz2_
          have HG_ := Lib.hid HB.out.size
          have HI_HW := Lib.hid (Nat.ne_of_lt HW.out.lt)
          have HI_HD := Lib.hid (Nat.ne_of_lt HD.out.lt)
          have HB_ := Lib.hid (HB.out.grow' hb_)
          clear HB
          have HB := HB_
          clear HB_
          have HW_ := Lib.hid (HW.out.grow hb_)
          clear HW
          have HW := HW_
          clear HW_
          have HD_ := Lib.hid (HD.out.grow hb_)
          clear HD
          have HD := HD_
          clear HD_
          generalize hg_ : w_.heap.size = gI at HX_ HG_ HI_HW HI_HD ⊢
          clear hg_
          have HI_g := HG_
          clear HG_
          have HI := HX_
          clear hb_ HX_
          try clear w_
          rename World => w_
          go_wp2_with (first | (with_reducible refine wpl_alloc (o := ⟨some 14, _, _, _, _, _⟩) rfl rfl zero_coin ?_))
          intro w2_ hb2_ hb_ hsz2_
          have HX_ := Lib.hid (at_mk hb2_ len_coin)
          clear hb2_ hsz2_
          have HG_ := Lib.hid HB.out.size
          have HV_HI := Lib.hid (Nat.ne_of_lt HI.out.lt)
          have HV_HW := Lib.hid (Nat.ne_of_lt HW.out.lt)
          have HV_HD := Lib.hid (Nat.ne_of_lt HD.out.lt)
          have HB_ := Lib.hid (HB.out.grow' hb_)
          clear HB
          have HB := HB_
          clear HB_
          have HI_ := Lib.hid (HI.out.grow hb_)
          clear HI
          have HI := HI_
          clear HI_
          have HW_ := Lib.hid (HW.out.grow hb_)
          clear HW
          have HW := HW_
          clear HW_
          have HD_ := Lib.hid (HD.out.grow hb_)
          clear HD
          have HD := HD_
          clear HD_
          generalize hg_ : w_.heap.size = gV at HX_ HG_ HV_HI HV_HW HV_HD ⊢
          clear hg_
          have HV_g := HG_
          clear HG_
          have HV := HX_
          clear hb_ HX_
          try clear w_
          rename World => w_
          have HNE := Lib.hid (HV_HI.out.symm)
          go_wp2_with (first | (with_reducible refine wpl_storeb (o := ⟨none, .store _ _ _, _, _, _, _⟩) rfl rfl row_idk HI.out.blk rfl rfl HI.out.len HIW.out.len HIW.out.one ?_))
          intro w2_ hb2_ hg2_ hsz2_
          have HB_ := Lib.hid (put_below HB.out HI_g.out hg2_)
          have HX_ := Lib.hid (at_mk hb2_ HIW.out.len)
          have HV_ := Lib.hid (At.off HV.out hg2_ HNE.out)
          have HW_ := Lib.hid (At.off HW.out hg2_ HI_HW.out)
          have HD_ := Lib.hid (At.off HD.out hg2_ HI_HD.out)
          clear hb2_ hg2_ hsz2_ HB HI HV HW HD
          have HB := HB_; have HI := HX_
          have HV := HV_
          have HW := HW_
          have HD := HD_
          clear HB_ HX_ HV_ HW_ HD_
          try clear w_
          rename World => w_
          go_wp2_with (first | (with_reducible refine wpl_storeb (o := ⟨none, .store _ _ _, _, _, _, _⟩) rfl rfl row_coin HV.out.blk rfl rfl HV.out.len HCC.out.len HCC.out.one ?_))
          intro w2_ hb2_ hg2_ hsz2_
          have HB_ := Lib.hid (put_below HB.out HV_g.out hg2_)
          have HX_ := Lib.hid (at_mk hb2_ HCC.out.len)
          have HI_ := Lib.hid (At.off HI.out hg2_ HV_HI.out)
          have HW_ := Lib.hid (At.off HW.out hg2_ HV_HW.out)
          have HD_ := Lib.hid (At.off HD.out hg2_ HV_HD.out)
          clear hb2_ hg2_ hsz2_ HB HV HI HW HD
          have HB := HB_; have HV := HX_
          have HI := HI_
          have HW := HW_
          have HD := HD_
          clear HB_ HX_ HI_ HW_ HD_
          try clear w_
          rename World => w_
          have z1 : (th != th) = false := by simp
          go_wp2_with fail
          try go_wp2_with fail
          repeat' (first | (with_reducible refine wp_flow (id := 25) [0,0,2,7,15,31,31,95,255,511,1023,2047,2047,8191,16383,32767,65535,65535,196607,524287,65535,65535,2162687,8388607,16777215,33554431,67108863] [0,0,0,0,0,0,0,0,0,0,0,0,0,0,0,0,0,0,0,3,0,0,0,3,3,0,0] (fun i => match i with | 19 => spR q pl | 23 => spR q pl | 24 => spV (.bool true) | _ => spV undef) (by kernel_rfl) (by kernel_rfl) ?_) | go_values | go_skip | go_guarded | go_step | go_upon | go_back)
          intro w_ hd_
          have hb_ := hd_.grow
          have HB_ := Lib.hid (HB.out.grow' hb_)
          clear HB
          have HB := HB_
          clear HB_
          have HI_ := Lib.hid (HI.out.grow hb_)
          clear HI
          have HI := HI_
          clear HI_
          have HV_ := Lib.hid (HV.out.grow hb_)
          clear HV
          have HV := HV_
          clear HV_
          have HW_ := Lib.hid (HW.out.grow hb_)
          clear HW
          have HW := HW_
          clear HW_
          have HD_ := Lib.hid (HD.out.grow hb_)
          clear HD
          have HD := HD_
          clear HD_
          clear hb_ hd_
          show wpL _ _ _ _ _ _ _ [0,1,2,3,4,5,6,7,8,9,10,11,12,13,14,15,16,17,18,19,20,21,22,23,24,25,26] _ _
          have HMW := Lib.hid (HWI1.out w_ HW.out); have HMX := Lib.hid (HWC1.out w_ HW.out); have HMY := Lib.hid (HI34.out w_ HD.out)
          refine fl_loadb rfl (by decide) (by first | exact wanted_none rfl | (go_simp; done) | fail) rfl row_idk HI.out.blk (by first | rfl | (go_simp; done) | rfl) HI.out.len (fun K hK => ?_)
          go_simp
          refine hK _ ?_
          clear hK K
          refine fl_calm rfl (by decide) (by first | exact wanted_none rfl | (go_simp; done) | fail) (fun w_ _ _ => by first | (go_simp; rfl) | (go_simp; done) | rfl) (fun K hK => ?_)
          go_simp
          refine hK _ ?_
          clear hK K
          refine fl_loadm rfl (by decide) (by first | exact wanted_none rfl | (go_simp; done) | fail) rfl row_idk HMW.out (by first | rfl | (go_simp; done) | rfl) HIW.out.len (fun K hK => ?_)
          go_simp
          refine hK _ ?_
          clear hK K
          refine fl_calm rfl (by decide) (by first | exact wanted_none rfl | (go_simp; done) | fail) (fun w_ _ _ => by have c1 := HWI.out; first | (go_simp; rfl) | (go_simp; done) | rfl) (fun K hK => ?_)
          go_simp
          refine hK _ ?_
          clear hK K
          refine fl_calm rfl (by decide) (by first | exact wanted_none rfl | (go_simp; done) | fail) (fun w_ _ _ => by first | (go_simp; rfl) | (go_simp; done) | rfl) (fun K hK => ?_)
          go_simp
          refine hK _ ?_
          clear hK K
          refine fl_loadb rfl (by decide) (by first | exact wanted_none rfl | (go_simp; done) | fail) rfl row_coin HV.out.blk (by first | rfl | (go_simp; done) | rfl) HV.out.len (fun K hK => ?_)
          go_simp
          refine hK _ ?_
          clear hK K
          refine fl_calm rfl (by decide) (by first | exact wanted_none rfl | (go_simp; done) | fail) (fun w_ _ _ => by first | (go_simp; rfl) | (go_simp; done) | rfl) (fun K hK => ?_)
          go_simp
          refine hK _ ?_
          clear hK K
          refine fl_loadm rfl (by decide) (by first | exact wanted_none rfl | (go_simp; done) | fail) rfl row_coin HMX.out (by first | rfl | (go_simp; done) | rfl) HCC.out.len (fun K hK => ?_)
          go_simp
          refine hK _ ?_
          clear hK K
          refine fl_calm rfl (by decide) (by first | exact wanted_none rfl | (go_simp; done) | fail) (fun w_ _ _ => by have c1 := HWS.out; first | (go_simp; rfl) | (go_simp; done) | rfl) (fun K hK => ?_)
          go_simp
          refine hK _ ?_
          clear hK K
          refine fl_calm rfl (by decide) (by first | exact wanted_none rfl | (go_simp; done) | fail) (fun w_ _ _ => by first | (go_simp; rfl) | (go_simp; done) | rfl) (fun K hK => ?_)
          go_simp
          refine hK _ ?_
          clear hK K
          refine fl_calm rfl (by decide) (by first | exact wanted_none rfl | (go_simp; done) | fail) (fun w_ _ _ => by first | (go_simp; rfl) | (go_simp; done) | rfl) (fun K hK => ?_)
          go_simp
          refine hK _ ?_
          clear hK K
          refine fl_calm rfl (by decide) (by first | exact wanted_none rfl | (go_simp; done) | fail) (fun w_ _ _ => by first | (go_simp; rfl) | (go_simp; done) | rfl) (fun K hK => ?_)
          go_simp
          refine hK _ ?_
          clear hK K
          refine fl_calm rfl (by decide) (by first | exact wanted_none rfl | (go_simp; done) | fail) (fun w_ _ _ => by first | (go_simp; rfl) | (go_simp; done) | rfl) (fun K hK => ?_)
          go_simp
          refine hK _ ?_
          clear hK K
          refine fl_calm rfl (by decide) (by first | exact wanted_none rfl | (go_simp; done) | fail) (fun w_ _ _ => by first | (go_simp; rfl) | (go_simp; done) | rfl) (fun K hK => ?_)
          go_simp
          refine hK _ ?_
          clear hK K
          refine fl_calm rfl (by decide) (by first | exact wanted_none rfl | (go_simp; done) | fail) (fun w_ _ _ => by first | (go_simp; rfl) | (go_simp; done) | rfl) (fun K hK => ?_)
          go_simp
          refine hK _ ?_
          clear hK K
          refine fl_calm rfl (by decide) (by first | exact wanted_none rfl | (go_simp; done) | fail) (fun w_ _ _ => by first | (go_simp; rfl) | (go_simp; done) | rfl) (fun K hK => ?_)
          go_simp
          refine hK _ ?_
          clear hK K
          refine fl_calm rfl (by decide) (by first | exact wanted_none rfl | (go_simp; done) | fail) (fun w_ _ _ => by first | (go_simp; rfl) | (go_simp; done) | rfl) (fun K hK => ?_)
          go_simp
          refine hK _ ?_
          clear hK K
          refine fl_calm rfl (by decide) (by first | exact wanted_none rfl | (go_simp; done) | fail) (fun w_ _ _ => by first | (go_simp; rfl) | (go_simp; done) | rfl) (fun K hK => ?_)
          go_simp
          refine hK _ ?_
          clear hK K
          refine fl_loadm rfl (by decide) (by first | exact wanted_none rfl | (go_simp; done) | fail) rfl row_idk HMY.out (by first | rfl | (go_simp; done) | rfl) HIC.out.len (fun K hK => ?_)
          go_simp
          refine hK _ ?_
          clear hK K
          refine fl_calls rfl (by kernel_rfl) rfl (by first | exact wanted_none rfl | (go_simp; done) | fail) (fun w_ => by first | (go_simp; exact ⟨rfl, rfl⟩) | (go_simp; rfl) | (go_simp; exact ⟨⟨rfl, rfl, rfl⟩, rfl⟩)) (fun w2_ hg_ hL_ => ?_) (fun A9 c9 K hK => ?_)
          · skip
            replace HB := Lib.hid (HB.out.grow' hg_)
            exact (HOF.out w2_ (HC.out.call HB.out))
          go_simp
          refine hK _ ?_
          clear hK K
          refine fl_calm rfl (by decide) (by first | exact wanted_none rfl | (go_simp; done) | fail) (fun w_ _ _ => by first | (go_simp; rfl) | (go_simp; done) | rfl) (fun K hK => ?_)
          go_simp
          refine hK _ ?_
          clear hK K
          refine fl_calm rfl (by decide) (by first | exact wanted_none rfl | (go_simp; done) | fail) (fun w_ _ _ => by first | (go_simp; rfl) | (go_simp; done) | rfl) (fun K hK => ?_)
          go_simp
          refine hK _ ?_
          clear hK K
          refine fl_loadm rfl (by decide) (by first | exact wanted_none rfl | (go_simp; done) | fail) rfl row_idk HMY.out (by first | rfl | (go_simp; done) | rfl) HIC.out.len (fun K hK => ?_)
          go_simp
          refine hK _ ?_
          clear hK K
          refine fl_calls rfl (by kernel_rfl) rfl (by first | exact wanted_none rfl | (go_simp; done) | fail) (fun w_ => by first | (go_simp; exact ⟨rfl, rfl⟩) | (go_simp; rfl) | (go_simp; exact ⟨⟨rfl, rfl, rfl⟩, rfl⟩)) (fun w2_ hg_ hL_ => ?_) (fun A10 c10 K hK => ?_)
          · skip
            replace HB := Lib.hid (HB.out.grow' hg_)
            exact (HRO.out w2_ (HX.out.call HB.out))
          go_simp
          refine hK _ ?_
          clear hK K
          refine fl_callv rfl (by kernel_rfl) rfl (by first | exact wanted_none rfl | (go_simp; done) | fail) (fun w_ => by first | (go_simp; exact ⟨rfl, rfl⟩) | (go_simp; rfl) | (go_simp; exact ⟨⟨rfl, rfl, rfl⟩, rfl⟩)) (fun w2_ hg_ hL_ => ?_) (fun K hK => ?_)
          · skip
            have HR1 := Lib.hid (flA.get (k := 0) hL_ rfl (by kernel_rfl))
            have HR2 := Lib.hid (flA.get (k := 1) hL_ rfl (by kernel_rfl))
            exact (points_any w2_ HR1.out HR2.out HQ.out)
          go_simp
          refine hK _ ?_
          clear hK K
          refine fl_calm rfl (by decide) (by first | exact wanted_none rfl | (go_simp; done) | fail) (fun w_ _ _ => by first | (go_simp; rfl) | (go_simp; done) | rfl) (fun K hK => ?_)
          go_simp
          refine hK _ ?_
          clear hK K
          refine fl_calm rfl (by decide) (by first | exact wanted_none rfl | (go_simp; done) | fail) (fun w_ _ _ => by first | (go_simp; rfl) | (go_simp; done) | rfl) (fun K hK => ?_)
          go_simp
          refine hK _ ?_
          clear hK K
          refine fl_done ?_
          intro w2_ hg_ hL_
          replace HB := Lib.hid (HB.out.grow' hg_)
          clear hg_ hL_
          try clear w_
          rename World => w_
          clear z1
          go_wp2_with fail
          go_meet
          case rel => exact Lib.hid (HPL.out _ (HC.out.call HB.out) (HX.out.call HB.out) (HBO.out.grow' HB.out))
        have hd2f := eq_false hd2
        by_cases hd3 : d = 3
        · subst hd3
          go_wp2_with fail
          refine (kcopy_any g b L s w_ HC.out).mono ?_
          rintro e w2_ ⟨g2, b2, rfl, hc2, hg2, hb2, hb_⟩
          have HC2 := Lib.hid hc2
          have HNE := Lib.hid (show (g2 ≠ g ∧ g2 ≠ b) ∧ b2 ≠ g ∧ b2 ≠ b by have h1 := HC.out.ltg; have h2 := HC.out.ltb; omega)
          have HGB2 := Lib.hid (show w.heap.size ≤ g2 ∧ w.heap.size ≤ b2 by have h1 := HB.out.size; omega)
          replace HC := Lib.hid (HC.out.grow hb_); replace HX := Lib.hid (HX.out.grow hb_); replace HD := Lib.hid (HD.out.grow hb_); replace HB := Lib.hid (HB.out.grow' hb_)
          clear hc2 hg2 hb2 hb_
          try clear w_
          rename World => w_
          have HM1 := Lib.hid (HP1.out w_ HD.out)
          go_wp2_with (first | (with_reducible refine wpl_loadm (o := ⟨some 134, _, _, _, _, _⟩) rfl rfl row_point HM1.out rfl HPC.out.len ?_) | (with_reducible refine wpl_stop (o := ⟨some 135, _, _, _, _, _⟩) ?_))
          refine stop_go ?_
          refine wpl_build rfl rfl HB7.out ?_
          refine wpl_build rfl rfl HB3.out ?_
          go_wp2_with fail
          refine Calls.mono (show Calls Try.prog 19 _ w_ _ from HPU3.out w_ HC.out) ?_
          rintro e w2_ ⟨rfl, ht, h1, h2⟩
          obtain ⟨L1, s1, hq1, hq2⟩ := putQ_after HR.out HPO.out ⟨c1_ok, d77_len⟩ h1 h2
          have HC1 := Lib.hid hq1; have HR1 := Lib.hid hq2
          replace HC2 := Lib.hid (HC2.out.touched ht HNE.out.1 HNE.out.2)
          replace HX := Lib.hid (HX.out.touched HC.out ht)
          replace HD := Lib.hid (HD.out.touchK HC.out (by decide) ht)
          replace HB := Lib.hid (ht_belowK HB.out ht HGB.out)
          clear ht h1 h2 hq1 hq2 HC HM1
          try clear w_
          rename World => w_
          have HM1 := Lib.hid (HP1.out w_ HD.out)
          go_wp2_with (first | (with_reducible refine wpl_loadm (o := ⟨some 140, _, _, _, _, _⟩) rfl rfl row_point HM1.out rfl HPC.out.len ?_))
          refine Calls.mono (show Calls Try.prog 24 _ w_ _ from HTQ.out w_ g b _ L1 s1 HC1.out HR1.out) ?_
          rintro e w2_ ⟨rfl, ht, h1⟩
          replace HC2 := Lib.hid (HC2.out.touched ht HNE.out.1 HNE.out.2)
          replace HX := Lib.hid (HX.out.touched HC1.out ht)
          replace HB := Lib.hid (ht_belowK HB.out ht HGB.out)
          clear ht h1 HC1 HR1 HM1 HD
          generalize coinV ((lookL L1 p).getD noLock).1 = tv1
          generalize (lookL L1 p).isSome = tv2
          try clear w_
          rename World => w_
          have HEND := Lib.hid (show PlayK w w_ (.pointer (some ⟨g2, 0, none⟩)) (.slice A4 m c4) from ⟨g2, b2, X, L, s, A4, m, c4, rfl, rfl, HC2.out, HR.out, HX.out, HGB2.out, HB.out⟩)
          go_wp2_with fail
          go_meet
          case rel => exact HEND
        have hd3f := eq_false hd3
        go_wp2_with fail
        go_meet
        case rel => exact Lib.hid (HPL.out _ HC.out HX.out HB.out)
      case rest =>
        clear HC HX HD HW HB
        obtain ⟨g, b, X, L, s, A4, m, c4, rfl, rfl, hc, hr, hx, hgb, hbw⟩ := hcut.out
        have HIS := Lib.hid (isK_any (c := c4) g b X L s wc hc hr hx)
        have HEND := Lib.hid (show PlayK w wc (.pointer (some ⟨g, 0, none⟩)) (.slice A4 m c4) from ⟨g, b, X, L, s, A4, m, c4, rfl, rfl, hc, hr, hx, hgb, hbw⟩)
        clear hc hr hx hgb hbw hcut
        go_wp2_with fail
        refine HIS.out.mono ?_
        rintro e w9 ⟨rfl, hb9⟩
        replace HEND := Lib.hid (HEND.out.grow hb9)
        clear hb9 HIS
        go_wp2_with fail
        go_roundw
        case rel => exact ⟨k + 1, by omega, by go_num, HEND⟩
        case measure => simp [intOf]; omega
    · obtain rfl : k = n := by omega
      go_wp2_with fail
      refine (awake21_any _).mono ?_
      rintro e w9 ⟨rfl, hb9⟩
      have HB9 := Lib.hid (show Below w.heap.size w w9 by
        obtain ⟨_, _, _, _, _, _, _, _, _, _, _, _, _, _, hb⟩ := hI.out
        exact hb.grow' hb9)
      clear hb9
      go_wp2_with fail
      go_ret
      exact ⟨rfl, HB9.out⟩
end Go.Proofs.Ytolbbhbfbpiljaa

/- The given statement LocksPlaySaid, out of the walk locksPlay_walk: for every input the law returns true, and each argument reads as it did. No condition. -/
namespace Go.Proofs.Ytolbbhbfbpiljaa.lawLocksPlay
open Go.ChangeShapes Go.WideShapes Go.ChangeAt Go.RowKit
open Go.ChangeMaps (open_string shut_string)
set_option linter.unusedVariables false

theorem own : ownKnob Try.prog.godebug = none := by kernel_rfl
theorem laidOut : laidOutB Try.prog = true := by kernel_rfl

set_option maxRecDepth 100000 in
theorem lifted (os : Os) (started : os.Started) (H : Type) (enc : TypeId × Value → H) :
    ReturnsInHanded {} Try.checked os 8 .any (Rows.locksPlaySpec.pre6 enc Try.prog Try.f8 Rows.locksPlayRow.domain false) (Rows.locksPlaySpec.post enc Try.prog Try.f8 false true false false) := by
  refine returnsInHanded_of_change (C := Try.checked) own started (by kernel_rfl) Try.func8
    (ChangeSpec.witness6 (enc := enc) (C := Try.checked) false ⟨#[], #[.slice none 0 0], []⟩ 8 (by kernel_rfl) (by kernel_rfl) (by kernel_rfl) (by kernel_rfl)) ?_
  intro W base args ds gs before hval0 hW hcnd _
  have hval : ∀ (j : Nat) t v, Try.f8.params[j]? = some t → args[j]? = some v → Value.okWide Try.prog W .any base t v := hval0
  have hW' := hW
  obtain ⟨p, q, hA0, hV, rfl, hfz, hnd⟩ := hW
  have hA : DataW.TrodAll enc Try.prog W 0 (fun _ => true) true Try.f8.params.toList args.toList ds p := hA0
  rw [Try.params8] at hA hval
  obtain ⟨v0, vs0, d0, ds0, p0, q0, hargs, rfl, rfl, h0, r0⟩ := trodAll_cons hA
  obtain ⟨rfl, rfl, rfl⟩ := trodAll_nil r0
  obtain rfl : args = #[v0] := by cases args; simp_all
  obtain ⟨rfl, rfl⟩ := trodVars_none hV
  have k0 := h0
  have lt0 : ∀ x ∈ p0, x.block < W.heap.size := by obtain ⟨m, hm⟩ := k0; exact DataW.trod_lt m _ _ _ hm
  obtain ⟨x0_0, x0_1, x0_2, x0_3, rfl, f0_0, f0_1⟩ := open_actk (hval 0 80 v0 rfl rfl) h0
  clear hA0 hval0
  refine (locksPlay_walk x0_0 x0_1 x0_2 x0_3 W f0_0 f0_1).mono fun e W' ⟨he, bel⟩ => ?_
  subst he
  exact ⟨_, rfl, _, _, _, [], _, [], hW', trodAll_mk1 (shut_bool Try.underlying4 _), (trodAll_cons_mk (Below.trod laidOut (by kernel_rfl) (of_decide_eq_true (by kernel_rfl)) k0 bel lt0) trodAll_mk0), rfl, bel.frame _, fun h => by cases h⟩

theorem proved : Rows.LocksPlaySaid :=
  OpenClaim.holds_of_wide 8 Try.f8 rfl rfl rfl rfl rfl rfl rfl ⟨rfl, rfl, rfl, rfl, rfl⟩ rfl rfl rfl rfl rfl (by kernel_rfl) Try.func8 (by kernel_rfl)
    (of_decide_eq_true (by kernel_rfl)) (by unfold Func.isWrapper; first | (rw [if_pos (by decide +kernel)]; kernel_rfl) | (rw [if_neg (by decide +kernel)]; exact ⟨rfl, rfl⟩))
    (fun os started H enc _ => lifted os started H enc)
#print axioms proved
end Go.Proofs.Ytolbbhbfbpiljaa.lawLocksPlay

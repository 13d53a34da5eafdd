/- The contract of coins.Take. -/
import Derived.Test.YtnnjjbkdjkjnpaaGreatDoorSpendPlaysRb17
import Derived.Shelf.SlSortCmp.NoneTotal
import Derived.Sort.OwnSorted
import Derived.Shelf.SlIter.Collect
import Derived.Maps.OwnIn
set_option linter.unusedSectionVars false
set_option linter.unusedSimpArgs false
set_option linter.unusedVariables false
set_option maxRecDepth 100000
set_option maxHeartbeats 16000000
namespace Go.Proofs.YtnnjjbkdjkjnpaaGreatDoor
open Go.RowKit
def dropC(L:CoinsL)(p:PtK):CoinsL:=L.eraseP (fun e=>e.1 == p)
def delC(w0:World)(g b:Nat)(es es':Array MapEntry)(clock:Nat)(s:Int)(k:Nat)(w:World):Prop:=
 Touched [g,b] w0 w∧w.heap.size=w0.heap.size∧w.heap[b]? = some (.map (if k=0 then es else es') clock)∧Blk w g 90 [.map (some b),.int .u64 s]
def sumC(w0:World)(g b:Nat)(es:Array MapEntry)(clock:Nat)(s s2:Int)(k:Nat)(w:World):Prop:=
 Touched [g,b] w0 w∧w.heap.size=w0.heap.size∧w.heap[b]? = some (.map es clock)∧Blk w g 90 [.map (some b),.int .u64 (if k=0 then s else s2)]
theorem take_map {w : World} {g b : Nat} {L : CoinsL} {s : Int} (h : CoinsAt w g b L s) {p : PtK} (hp : PtOK p) : ∃ es es' clock, w.heap[b]? = some (.map es clock) ∧ MapOK Tryz.prog 69 es' clock ∧ kvs es' = encC (dropC L p) ∧ LOK (dropC L p) ∧
  ∀w' ty,w'.heap[b]? = some (.map es clock)→(Builtin.delete_ #[88,69] ty #[.map (some b),ptA p]).run Tryz.prog w'=.ok (.tuple #[]) (withBlk w' b (.map es' clock)):=by
 obtain⟨hb1,⟨es,clock,h3,h4,h5⟩,⟨h6,h6'⟩,h7⟩:=h;obtain⟨lx,hx⟩:=keyOf_pt p hp;have hlo:LOK (dropC L p):=⟨fun e he=>h6 e (List.mem_of_mem_eraseP he),h6'.sublist ((List.eraseP_sublist).map _)⟩;cases hf:L.findIdx? (fun e=>e.1 == p) with
 | none =>
  have hd:dropC L p=L:=by
   unfold dropC;rw[List.eraseP_eq_eraseIdx,hf]
  have hno:∀q∈kvs es,q.1≠ptA p:=by
   intro q hq e;rw[h5]at hq;obtain⟨en,hen,rfl⟩:=List.mem_map.1 hq;have:=List.findIdx?_eq_none_iff.1 hf en hen;rw[ptA_inj (h6 en hen).1.1 hp.1 e]at this;simp at this
  refine⟨es,es,clock,h3,h4,by rw[hd,h5],hlo,fun w' ty hw=>?_⟩;rw[withBlk_same hw];exact run_delete_no kl_point Tryz.underlying88 hw h4 hx hno
 | some j =>
  have hd:dropC L p=L.eraseIdx j:=by
   unfold dropC;rw[List.eraseP_eq_eraseIdx,hf]
  obtain⟨hj,hjk,_⟩:=List.findIdx?_eq_some_iff_getElem.1 hf;have hkey:L[j].1=p:=by simpa using hjk
  have e1:(kvs es)[j]? = some (ptA p,coinA L[j].2):=by rw[h5];unfold encC;rw[List.getElem?_map,List.getElem?_eq_getElem hj];simp [hkey]
  unfold kvs at e1;rw[List.getElem?_map]at e1;obtain⟨me,hme,hmm⟩:=Option.map_eq_some_iff.1 e1;simp only [Prod.mk.injEq]at hmm;refine⟨es,es.eraseIdxIfInBounds j,clock,h3,h4.erase j,?_,hlo,fun w' ty hw=>?_⟩
  ·rw[kvs_erase,h5,hd];unfold encC;rw[map_erase]
  ·exact run_delete_yes kl_point Tryz.underlying88 hw h4 hx (j:=j) (en:=me) (by simpa using hme) hmm.1
theorem take_any (g b : Nat) (L : CoinsL) (s : Int) (p : PtK) (w : World) (h : CoinsAt w g b L s) (hp : PtOK p) (hs : s ≤ 18446744073709551615) (hle : ((lookC L p).getD noCoin).2 ≤ s) :
  Calls Tryz.prog 39 #[.pointer (some ⟨g,0,none⟩),ptA p] w fun e w'=>e=.returned (.tuple #[coinA ((lookC L p).getD noCoin),.bool (lookC L p).isSome])∧Touched [g,b] w w'∧CoinsAt w' g b (dropC L p) (s - ((lookC L p).getD noCoin).2):=by
 obtain⟨c,hc,hce,-⟩:=h.look hp;rw[← hce]at hle ⊢;obtain⟨ok,hok⟩:=xe ((lookC L p).isSome);rw[← hok]
 have hlk:∀w',CoinsAt w' g b L s→(Instr.lookup 88 (.map (some b)) (ptA p) true).run Tryz.prog w'=.ok (.tuple #[coinA c,.bool ok]) w':=by
  intro w' h';obtain⟨c',_,e,h2⟩:=h'.look hp;rw[hce,← e,hok];exact h2
 obtain⟨es,es',clock,t1,t2,t3,t4,t5⟩:=take_map h hp;obtain⟨L2,hL2⟩:=xe (dropC L p);rw[← hL2]at t3 t4 ⊢;have HT1:=kp t1;have HT2:=kp t2;have HT3:=kp t3;have HT4:=kp t4;have HT5:=kp t5;have HLK:=kp hlk;have HC:=kp h;have HX:=kp (ptV_length hp.1);have HCL:=kp (coinV_length hc);have HC1:=kp (coinV_one c);have HCI:=kq ((coinV c)[32]? = some (.int .u64 c.2)) (by unfold coinV;rw[List.getElem?_append_right (by simp [hc.1])];simp [hc.1]);have hc0:=hc.2.1;have HWR:=kp (u64_in (s - c.2) ⟨by omega,by omega⟩);clear hok hce hc hp hlk t1 t2 t3 t4 t5 hL2;obtain⟨xs,hxs⟩:=xe (ptV p);obtain⟨cs,hcs⟩:=xe (coinV c);obtain⟨ci,hci⟩:=xe c.2;rw[← hci]at hc0 hle HCI HWR ⊢;rw[coinA,← hcs];rw[coinA,← hcs]at HLK;rw[← hcs]at HCL HC1 HCI;rw[ptA,← hxs];rw[ptA,← hxs]at HLK HT5;rw[← hxs]at HX;clear hxs hcs hci;obtain⟨z,hz⟩:=xe w.heap.size;have hg:g < z:=by rw[hz];exact h.ltg
 have hb:b < z:=by rw[hz];exact h.ltb
 have HZ:=kp hz;have hgb:=h.ne;have HGB:=kp hgb;clear h hz hgb
 go_enter Tryz.func39,Tryz.ntmps39
 go_wp2_with (with_reducible first|refine wpl_box (o:=⟨some 3,_,_,_,_,_⟩) rfl rfl rfl ?_);intro w1 hb1 hbw1 hsz1;rw[← HZ.o]at hb1 hbw1 hsz1 ⊢;go_wp2_with (with_reducible first|refine wpl_alloc (o:=⟨some 4,_,_,_,_,_⟩) rfl rfl zero_coin ?_);intro w2 hb2 hbw2 hsz2;have HB1:=kp (hb1.below hbw2 (by omega));have HB2:=kp hb2;have HBW:=kp (hbw1.trans (hbw2.mono (by omega)));have HSZ:=kp hsz2;have HC2:=kp (HC.o.below HBW.o hg hb);have HT12:=kp ((HBW.o.block b hb).trans HT1.o);clear hb1 hb2 hbw1 hbw2 hsz1 hsz2;repeat' (first|(with_reducible refine wp_phase (id:=1) (newC w2 77 (coinV noCoin) cs) [9,10] [(0,2),(0,2),(0,2),(0,2),(0,2),(0,2),(0,2),(0,2),(0,2),(0,0),(1,1),(0,2)] (by kernel_rfl) (by kernel_rfl) ?_ ?_)|go_values|go_skip|go_guarded|go_step|go_upon|go_back)
 ·exact newC.start
 have HF:=kq (∀k w',newC w2 77 (coinV noCoin) cs k w'→w'.cell? ⟨g,0,none⟩=some (.map (some b))) (fun k w' h=>(HC2.o.call (newC.low k w' h)).blk.at_ rfl);have HL:=kq (∀k w',newC w2 77 (coinV noCoin) cs k w'→(Instr.lookup 88 (.map (some b)) (.agg xs.toArray) true).run Tryz.prog w'=.ok (.tuple #[.agg cs.toArray,.bool ok]) w') (fun k w' h=>HLK.o w' (HC2.o.call (newC.low k w' h)));have HX1:=kq (∀k w',newC w2 77 (coinV noCoin) cs k w'→Blk w' z 69 xs) (fun k w' h=>HB1.o.call (newC.low k w' h));refine ph_value rfl (by first|rfl|go_simp) (fun k_ _ _ w_ hC_=>by first|(go_simp;rfl)|(go_simp;done)|rfl) (fun K hK=>?_);go_simp;refine hK _ ?_;clear hK K;refine ph_value rfl (by first|rfl|go_simp) (fun k_ _ _ w_ hC_=>by first|(go_simp;rfl)|(go_simp;done)|rfl) (fun K hK=>?_);go_simp;refine hK _ ?_;clear hK K;refine ph_value rfl (by first|rfl|go_simp) (fun k_ _ _ w_ hC_=>by first|(go_simp;rfl)|(go_simp;done)|rfl) (fun K hK=>?_);go_simp;refine hK _ ?_;clear hK K;refine ph_value rfl (by first|rfl|go_simp) (fun k_ _ _ w_ hC_=>by have c1:=HF.o _ _ hC_;first|(go_simp;rfl)|(go_simp;done)|rfl) (fun K hK=>?_);go_simp;refine hK _ ?_;clear hK K;refine ph_load rfl rfl rfl row_point (fun k _ _ w h=>HX1.o k w h) rfl HX.o ?_
 (intro K hK;go_simp;refine hK _ ?_;clear hK K)
 refine ph_value rfl (by first|rfl|go_simp) (fun k_ _ _ w_ hC_=>by have c1:=HL.o _ _ hC_;first|(go_simp;rfl)|(go_simp;done)|rfl) (fun K hK=>?_);go_simp;refine hK _ ?_;clear hK K;refine ph_value rfl (by first|rfl|go_simp) (fun k_ _ _ w_ hC_=>by first|(go_simp;rfl)|(go_simp;done)|rfl) (fun K hK=>?_);go_simp;refine hK _ ?_;clear hK K;refine ph_value rfl (by first|rfl|go_simp) (fun k_ _ _ w_ hC_=>by first|(go_simp;rfl)|(go_simp;done)|rfl) (fun K hK=>?_);go_simp;refine hK _ ?_;clear hK K;refine ph_value rfl (by first|rfl|go_simp) (fun k_ _ _ w_ hC_=>by first|(go_simp;rfl)|(go_simp;done)|rfl) (fun K hK=>?_);go_simp;refine hK _ ?_;clear hK K;refine ph_alloc 0 rfl rfl rfl rfl rfl zero_coin newC.lay ?_
 (intro K hK;go_simp;refine hK _ ?_;clear hK K)
 refine ph_store 1 rfl rfl rfl rfl rfl row_coin rfl rfl HCL.o HC1.o (newC.put (coinV_length noCoin_ok)) ?_
 (intro K hK;go_simp;refine hK _ ?_;clear hK K)
 refine ph_value rfl (by first|rfl|go_simp) (fun k_ _ _ w_ hC_=>by first|(go_simp;rfl)|(go_simp;done)|rfl) (fun K hK=>?_);go_simp;refine hK _ ?_;clear hK K;refine ph_nil ?_;intro w3 ⟨hl3,hs3,hx3⟩;have H3X:=kp hx3;have H3R:=kp (HB2.o.call hl3);have H3P:=kp (HB1.o.call hl3);have HC3:=kp (HC2.o.call hl3);have HT13:=kp ((hl3.block b (by rw[HSZ.o];omega)).trans HT12.o);have HL3:=kp (Touched.of_below (l:=[g,b]) (by rw[← HZ.o];exact HBW.o.trans (hl3.mono (by rw[HSZ.o];omega))));have HS3:=kq (z+3=w3.heap.size) (by rw[hs3,HSZ.o]);rw[HSZ.o]at H3X ⊢;clear hl3 hs3 hx3 HF HL HX1 HC2 HB1 HB2 HBW HLK HT12;generalize hz1:z+1=z1 at *;have HZ1:=kp hz1;clear hz1;generalize hz2:z1+1=z2 at *;have HZ2:=kp hz2;clear hz2;have h2z:z2=z+2:=by have:=HZ1.o;have:=HZ2.o;omega
 have H2Z:=kp h2z;clear h2z;repeat' (first|(with_reducible refine wp_phase (id:=2) (delC w3 g b es es' clock s) [5] [(0,1),(0,1),(0,1),(0,1),(0,1),(0,0)] (by kernel_rfl) (by kernel_rfl) ?_ ?_)|go_values|go_skip|go_guarded|go_step|go_upon|go_back)
 ·exact⟨Touched.of_below (Drawn.all (Drawn.one w3)),rfl,HT13.o,HC3.o.blk⟩
 have HF:=kq (∀k w',delC w3 g b es es' clock s k w'→w'.cell? ⟨g,0,none⟩=some (.map (some b))) (fun k w' h=>h.2.2.2.at_ rfl);have HX1:=kq (∀k w',delC w3 g b es es' clock s k w'→Blk w' z 69 xs) (fun k w' h=>(h.1.block z H3P.o.lt (by simp;omega)).trans H3P.o);refine ph_value rfl (by first|rfl|go_simp) (fun k_ _ _ w_ hC_=>by first|(go_simp;rfl)|(go_simp;done)|rfl) (fun K hK=>?_);go_simp;refine hK _ ?_;clear hK K;refine ph_value rfl (by first|rfl|go_simp) (fun k_ _ _ w_ hC_=>by first|(go_simp;rfl)|(go_simp;done)|rfl) (fun K hK=>?_);go_simp;refine hK _ ?_;clear hK K;refine ph_value rfl (by first|rfl|go_simp) (fun k_ _ _ w_ hC_=>by first|(go_simp;rfl)|(go_simp;done)|rfl) (fun K hK=>?_);go_simp;refine hK _ ?_;clear hK K;refine ph_value rfl (by first|rfl|go_simp) (fun k_ _ _ w_ hC_=>by have c1:=HF.o _ _ hC_;first|(go_simp;rfl)|(go_simp;done)|rfl) (fun K hK=>?_);go_simp;refine hK _ ?_;clear hK K;refine ph_load rfl rfl rfl row_point (fun k _ _ w h=>HX1.o k w h) rfl HX.o ?_
 (intro K hK;go_simp;refine hK _ ?_;clear hK K)
 refine ph_run 0 rfl rfl rfl (by first|rfl|go_simp) (fun w' hC=>⟨_,by (have hrun:=fun ty=>HT5.o w' ty hC.2.2.1);first|(go_simp;rfl)|(go_simp;exact⟨rfl,rfl⟩)|go_simp,⟨hC.1.grown (withBlk_grown _ _ _) (.inl (by simp)),by rw[withBlk_size,hC.2.1],withBlk_heap hC.2.2.1,hC.2.2.2.grown (withBlk_grown _ _ _) (by simpa using HGB.o)⟩⟩) ?_
 (intro K hK;go_simp;refine hK _ ?_;clear hK K)
 refine ph_nil ?_;intro w4 hC4;have H4X:=kq (Blk w4 z2 77 cs) ((hC4.1.block z2 H3X.o.lt (by have:=H2Z.o;simp;omega)).trans H3X.o);have H4R:=kq (Blk w4 z1 77 (coinV noCoin)) ((hC4.1.block z1 H3R.o.lt (by have:=HZ1.o;simp;omega)).trans H3R.o);have HC4:=kp hC4;have HL4:=kp (HL3.o.trans hC4.1);clear hC4 HF HX1;repeat' (first|(with_reducible refine wp_phase (id:=3) (sumC w4 g b es' clock s (s - ci)) [9] [(0,1),(0,1),(0,1),(0,0),(0,1),(0,1),(0,1),(0,1),(0,1),(0,0)] (by kernel_rfl) (by kernel_rfl) ?_ ?_)|go_values|go_skip|go_guarded|go_step|go_upon|go_back)
 ·exact⟨Touched.of_below (Drawn.all (Drawn.one w4)),rfl,HC4.o.2.2.1,HC4.o.2.2.2⟩
 have HF:=kq (∀w',sumC w4 g b es' clock s (s - ci) 0 w'→w'.cell? ⟨g,1,none⟩=some (.int .u64 s)) (fun w' h=>h.2.2.2.at_ rfl);have HX2:=kq (∀k w',sumC w4 g b es' clock s (s - ci) k w'→w'.cell? ⟨z2,32,none⟩=some (.int .u64 ci)) (fun k w' h=>Blk.at_ (show Blk w' z2 77 cs from(h.1.block z2 H4X.o.lt (by have:=H2Z.o;simp;omega)).trans H4X.o) HCI.o);refine ph_value rfl (by first|rfl|go_simp) (fun k_ _ _ w_ hC_=>by first|(go_simp;rfl)|(go_simp;done)|rfl) (fun K hK=>?_);go_simp;refine hK _ ?_;clear hK K;refine ph_value rfl (by first|rfl|go_simp) (fun k_ _ _ w_ hC_=>by first|(go_simp;rfl)|(go_simp;done)|rfl) (fun K hK=>?_);go_simp;refine hK _ ?_;clear hK K;refine ph_value rfl (by first|rfl|go_simp) (fun k_ _ _ w_ hC_=>by first|(go_simp;rfl)|(go_simp;done)|rfl) (fun K hK=>?_);go_simp;refine hK _ ?_;clear hK K;refine ph_value rfl (by first|rfl|go_simp) (fun k_ h1_ h2_ w_ hC_=>by (obtain rfl:k_=0:=Nat.le_zero.1 h2_);(have c1:=HF.o _ hC_);first|rfl|(go_simp;rfl)|go_simp) (fun K hK=>?_);go_simp;refine hK _ ?_;clear hK K;refine ph_value rfl (by first|rfl|go_simp) (fun k_ _ _ w_ hC_=>by first|(go_simp;rfl)|(go_simp;done)|rfl) (fun K hK=>?_);go_simp;refine hK _ ?_;clear hK K;refine ph_value rfl (by first|rfl|go_simp) (fun k_ _ _ w_ hC_=>by have c1:=HX2.o _ _ hC_;first|(go_simp;rfl)|(go_simp;done)|rfl) (fun K hK=>?_);go_simp;refine hK _ ?_;clear hK K;refine ph_value rfl (by first|rfl|go_simp) (fun k_ _ _ w_ hC_=>by have c9:=HWR.o;first|(go_simp;rfl)|(go_simp;done)|rfl) (fun K hK=>?_);go_simp;refine hK _ ?_;clear hK K;refine ph_value rfl (by first|rfl|go_simp) (fun k_ _ _ w_ hC_=>by first|(go_simp;rfl)|(go_simp;done)|rfl) (fun K hK=>?_);go_simp;refine hK _ ?_;clear hK K;refine ph_value rfl (by first|rfl|go_simp) (fun k_ _ _ w_ hC_=>by first|(go_simp;rfl)|(go_simp;done)|rfl) (fun K hK=>?_);go_simp;refine hK _ ?_;clear hK K;refine ph_runs 0 rfl rfl rfl (by first|rfl|go_simp) (fun w' hC=>⟨_,by (have hcl:=hC.2.2.2.at_ (i:=1) rfl);(have hfz:=hC.2.2.2.frozen 1);first|(go_simp;rfl)|(go_simp;exact⟨rfl,rfl⟩)|go_simp,⟨hC.1.grown (grown_set w' g 1 _) (.inl (by simp)),by simpa using hC.2.1,((grown_set w' g 1 (.int .u64 (s - ci))).block b (Array.getElem?_eq_some_iff.1 hC.2.2.1).1 (by simpa using fun e=>HGB.o e.symm)).trans hC.2.2.1,hC.2.2.2.set_ 1 (.int .u64 (s - ci))⟩⟩) ?_
 (intro K hK;go_simp;refine hK _ ?_;clear hK K)
 refine ph_nil ?_;intro w5 hC5;have H5X:=kq (Blk w5 z2 77 cs) ((hC5.1.block z2 H4X.o.lt (by have:=H2Z.o;simp;omega)).trans H4X.o);have H5R:=kq (Blk w5 z1 77 (coinV noCoin)) ((hC5.1.block z1 H4R.o.lt (by have:=HZ1.o;simp;omega)).trans H4R.o);have HL5:=kp (HL4.o.trans hC5.1);have HC5:=kq (CoinsAt w5 g b L2 (s - ci)) ⟨hC5.2.2.2,⟨es',clock,hC5.2.2.1,HT2.o,HT3.o⟩,HT4.o,HGB.o⟩;clear hC5 HF HX2;go_wp2_with (with_reducible first|refine wlb 31 row_coin H5X.o HCL.o ?_|refine wpl_storeb (o:=⟨none,.store _ _ _,_,_,_,_⟩) rfl rfl row_coin H5R.o rfl rfl (coinV_length noCoin_ok) HCL.o HC1.o ?_);intro w6 hb6 hg6 hs6;have H6R:=kp hb6;have HL6:=kp (HL5.o.grown hg6 (.inr (by have:=HZ1.o;have:=HZ.o;omega)))
 have HC6:=kp (show CoinsAt w6 g b L2 (s - ci) from by
  obtain⟨q1,⟨e1,c1,q2,q3,q4⟩,q5,q6⟩:=HC5.o
  exact⟨q1.grown hg6 (by have:=HZ1.o;simp;omega),⟨e1,c1,(hg6.block b (Array.getElem?_eq_some_iff.1 q2).1 (by have:=HZ1.o;simp;omega)).trans q2,q3,q4⟩,q5,q6⟩)
 clear hb6 hg6 hs6;go_wp2_with fail;refine ret_cell_tmp rfl row_coin H6R.o rfl HCL.o rfl rfl ?_;exact⟨rfl,HL6.o,HC6.o⟩
def pt(i:Int):PtK:=(List.replicate 32 0,i)
def cn(a:Int):CoinV:=(List.replicate 32 0,a)
theorem pt_ok(i:Int)(h:(Lit.int .i64 i).wf=true):PtOK (pt i):=⟨by simp [pt],h⟩
theorem cn_ok(a:Int)(h:0≤a)(h2:a≤18446744073709551615):CoinOK (cn a):=⟨by simp [cn],h,h2⟩
theorem CoinsAt.grown{w w':World}{g b:Nat}{L:CoinsL}{s:Int}{row:Option Nat}(h:CoinsAt w g b L s)(hg:w.grownBy w' row)(h1:some g≠row)(h2:some b≠row):CoinsAt w' g b L s:=by
 obtain⟨q1,⟨e1,c1,q2,q3,q4⟩,q5,q6⟩:=h;exact⟨q1.grown hg h1,⟨e1,c1,(hg.block b (Array.getElem?_eq_some_iff.1 q2).1 h2).trans q2,q3,q4⟩,q5,q6⟩
theorem cb_neg:∀(a b:List UInt8),Lib.compareBytes b a=- Lib.compareBytes a b
 |[],[]=>by simp [Lib.compareBytes]
 |[],_::_=>by simp [Lib.compareBytes]
 | _::_,[]=>by simp [Lib.compareBytes]
 | x::a,y::b=>by
  rw[Lib.compareBytes,Lib.compareBytes];by_cases h1:x < y
  ·have h2:¬ y < x:=UInt8.lt_asymm h1;simp [h1,h2]
  ·by_cases h2:y < x
   ·simp [h1,h2]
   ·simp [h1,h2,cb_neg a b]
theorem cb_range:∀(a b:List UInt8),-1≤Lib.compareBytes a b∧Lib.compareBytes a b≤1
 |[],[]=>by simp [Lib.compareBytes]
 |[],_::_=>by simp [Lib.compareBytes]
 | _::_,[]=>by simp [Lib.compareBytes]
 | x::a,y::b=>by
  rw[Lib.compareBytes];have:=cb_range a b;split
  ·omega
  ·split
   ·omega
   ·exact this
theorem u8_eq{x y:UInt8}(h1:¬ x < y)(h2:¬ y < x):x=y:=UInt8.le_antisymm (UInt8.not_lt.1 h2) (UInt8.not_lt.1 h1)
theorem cb_zero:∀(a b:List UInt8),Lib.compareBytes a b=0→a=b
 |[],[],_=>rfl
 |[],_::_,h=>by simp [Lib.compareBytes]at h
 | _::_,[],h=>by simp [Lib.compareBytes]at h
 | x::a,y::b,h=>by
  rw[Lib.compareBytes]at h;split at h
  ·omega
  ·split at h
   ·omega
   ·rename_i h1 h2;rw[u8_eq h1 h2,cb_zero a b h]
theorem cb_trans:∀(a b c:List UInt8),Lib.compareBytes a b≤0→Lib.compareBytes b c≤0→Lib.compareBytes a c≤0
 |[],_,[],_,_=>by simp [Lib.compareBytes]
 |[],_,_::_,_,_=>by simp [Lib.compareBytes]
 | _::_,[],_,h,_=>by simp [Lib.compareBytes]at h
 | _::_,_::_,[],_,h=>by simp [Lib.compareBytes]at h
 | x::a,y::b,z::c,h1,h2=>by
  rw[Lib.compareBytes]at h1 h2 ⊢;split at h1
  ·rename_i g1;split at h2
   ·rename_i g2;rw[if_pos (UInt8.lt_trans g1 g2)];omega
   ·split at h2
    ·omega
    ·rename_i g2 g3;rw[← u8_eq g2 g3,if_pos g1];omega
  ·split at h1
   ·omega
   ·rename_i g1 g2;rw[u8_eq g1 g2];split at h2
    ·rename_i g3;rw[if_pos g3];omega
    ·split at h2
     ·omega
     ·rename_i g3 g4;rw[if_neg g3,if_neg g4];exact cb_trans a b c h1 h2
theorem cmpI_neg(a b:Int):cmpI b a=- cmpI a b:=by unfold cmpI;(repeat' split) <;> omega
theorem cmpI_range(a b:Int):-1≤cmpI a b∧cmpI a b≤1:=by unfold cmpI;(repeat' split) <;> omega
theorem cmpI_trans(a b c:Int)(h1:cmpI a b≤0)(h2:cmpI b c≤0):cmpI a c≤0:=by
 unfold cmpI at *;(repeat' split) <;> (repeat' split at h1) <;> (repeat' split at h2) <;> omega
theorem cmpI_zero(a b:Int)(h:cmpI a b=0):a=b:=by unfold cmpI at h;(repeat' split at h) <;> omega
theorem cmpP_neg(p q:PtK):cmpP q p=- cmpP p q:=by
 unfold cmpP;rw[cb_neg p.1 q.1,cmpI_neg p.2 q.2];by_cases h:Lib.compareBytes p.1 q.1=0
 ·rw[if_pos h,if_pos (by omega)]
 ·rw[if_neg h,if_neg (by omega)]
theorem cmpP_range(p q:PtK):-1≤cmpP p q∧cmpP p q≤1:=by
 unfold cmpP;have:=cb_range p.1 q.1;have:=cmpI_range p.2 q.2;split <;> omega
theorem cmpP_zero(p q:PtK):cmpP p q=0↔p=q:=by
 unfold cmpP;constructor
 ·intro h;by_cases h1:Lib.compareBytes p.1 q.1=0
  ·rw[if_pos h1]at h;exact Prod.ext (cb_zero _ _ h1) (cmpI_zero _ _ h)
  ·rw[if_neg h1]at h;exact absurd h h1
 ·intro h;subst h;rw[cb_self,if_pos rfl];unfold cmpI;simp
theorem cmpP_trans(p q r:PtK)(h1:cmpP p q≤0)(h2:cmpP q r≤0):cmpP p r≤0:=by
 unfold cmpP at *;by_cases g1:Lib.compareBytes p.1 q.1=0
 ·rw[if_pos g1]at h1;have e:=cb_zero _ _ g1;rw[← e]at h2;by_cases g2:Lib.compareBytes p.1 r.1=0
  ·rw[if_pos g2]at h2 ⊢;exact cmpI_trans _ _ _ h1 h2
  ·rw[if_neg g2]at h2 ⊢;exact h2
 ·rw[if_neg g1]at h1;by_cases g2:Lib.compareBytes q.1 r.1=0
  ·have e:=cb_zero _ _ g2;rw[← e,if_neg g1];exact h1
  ·rw[if_neg g2]at h2;have h3:=cb_trans _ _ _ h1 h2;by_cases g3:Lib.compareBytes p.1 r.1=0
   ·exfalso
    have e:=cb_zero _ _ g3;rw[← e,cb_neg p.1 q.1]at h2;omega
   ·rw[if_neg g3];exact h3
theorem cmpP_lt_trans{p q r:PtK}(h1:cmpP p q < 0)(h2:cmpP q r < 0):cmpP p r < 0:=by
 have h3:=cmpP_trans p q r (by omega) (by omega);rcases Int.lt_or_eq_of_le h3 with h|h
 ·exact h
 ·obtain rfl:=(cmpP_zero p r).1 h;have:=cmpP_neg p q;omega
theorem eql_pt(p q:PtK)(hp:PtOK p)(hq:PtOK q):∀w,(Op.equalIn 10000 69 (.agg (ptV p).toArray) (.agg (ptV q).toArray)).run Tryz.prog w=.ok (decide (p=q)) w:=by
 intro w;obtain⟨la,ha⟩:=keyOf_pt p hp;obtain⟨lb,hb⟩:=keyOf_pt q hq
 have hf:∀x:PtK,x.1.length=32→(ptA x).formed Tryz.prog 69=true:=by
  intro x hx;unfold ptA Value.formed;simp only [Tryz.underlying69,cells_point,List.size_toArray,ptV_length hx]
  rfl
 have hk:Tryz.prog.keyType 69=true:=by kernel_rfl
 have ha':=ha;have hb':=hb;unfold keyOf at ha hb;rw[Tryz.underlying69]at ha hb;simp only [hk,hf p hp.1,hf q hq.1,Bool.and_self,if_true]at ha hb;obtain⟨l1,e1,e1'⟩:=Option.map_eq_some_iff.1 ha;obtain⟨l2,e2,e2'⟩:=Option.map_eq_some_iff.1 hb;obtain⟨r,hr,hiff⟩:=run_equalIn_deep (P:=Tryz.prog) 9997 3 69 (by kernel_rfl) w _ _ (ptA p) (ptA q) l1 l2 (hf p hp.1) (hf q hq.1) e1 e2
 have:r=decide (p=q):=by
  rw[Bool.eq_iff_iff,hiff,decide_eq_true_eq];constructor
  ·intro h;subst h;rw[e1']at e2';subst e2';exact ptA_inj hp.1 hq.1 (kl_point.inj ha' hb')
  ·intro h;subst h;rw[e1]at e2;cases e2;rfl
 rw[← this];exact hr
def Gr(w w':World):Prop:=∃q os,w'=Go.Sort.grow (w.drewN q) os
theorem Gr.of{w w':World}(h:Below w.heap.size w w')(hd:w.drawn≤w'.drawn):Gr w w':=by
 refine⟨w'.drawn - w.drawn,(w'.heap.toList.drop w.heap.size).toArray,?_⟩;obtain⟨heap,tape,drawn,os,output⟩:=w;obtain⟨heap',tape',drawn',os',output'⟩:=w';obtain⟨h1,h2,h3,h4,h5⟩:=h;simp only at h1 h2 h3 h4 h5 hd;subst h1 h2 h3;unfold Go.Sort.grow World.drewN
 have e:heap'=heap++(heap'.toList.drop heap.size).toArray:=by
  apply Array.ext_getElem?
  intro k;rw[Array.getElem?_append];split
  ·rename_i hk;exact h5 k hk
  ·rename_i hk;rw[show(heap'.toList.drop heap.size).toArray[k - heap.size]? =(heap'.toList.drop heap.size)[k - heap.size]? from by rw[List.getElem?_toArray],List.getElem?_drop,← Array.getElem?_toList]
   congr 1;omega
 rw[World.mk.injEq];exact⟨e,rfl,by simp only;omega,rfl,rfl⟩
theorem Drawn.drawn{w w2:World}(h:Drawn w w2):w.drawn≤w2.drawn:=by obtain⟨m,rfl⟩:=h;exact Nat.le_add_right _ _
theorem wpl_boxd {P : Program} {w : World} {ops : Array Oper} {rest : List Oper} {o : Oper} {a : Act} {Q : Exit → Act → World → Prop} (hgd : o.guard = none) {T : TypeId} {x : Operand} (ho : o.op = .box T x) {cs : List Value} (hx : a.eval x = .agg cs.toArray)
  (h:∀w',Blk w' w.heap.size T cs→Below w.heap.size w w'→w'.heap.size=w.heap.size+1→w'.drawn=w.drawn→wpList P ops Q rest (a.put o.dst (.pointer (some ⟨w.heap.size,0,none⟩))) w'):wpList P ops Q (o::rest) a w:=by
 refine wpList_plain hgd fun K hK=>?_
 have hrun:(Instr.box T (.agg cs.toArray)).run P w=.ok (.pointer (some ⟨w.heap.size,0,none⟩)) (w.alloc (.cells cs.toArray T)):=by
  simp [Instr.box,newVar,newRow,Value.cells]
 unfold Oper.wp execOp;simp only [ho,hx,Sem.run_bind,hrun,Result.andThen_ok,Sem.run_pure];exact hK _ _ (h _ (heap_alloc_new _ _) ((Below.refl _ _).alloc (Nat.le_refl _) _) (by simp) rfl)
theorem ccmpg_any (p q : List UInt8 × Int) (w : World) (hp : p.1.length = 32) (hq : q.1.length = 32) :
  Calls Tryz.prog 93 #[.agg (ptV p).toArray,.agg (ptV q).toArray] w fun e w'=>e=.returned (.int .i64 (cmpP p q))∧Gr w w':=by
 obtain⟨xs,hxs⟩:=xe (ptV p);obtain⟨ys,hys⟩:=xe (ptV q);obtain⟨z,hz⟩:=xe (cmpP p q);rw[← hxs,← hys,← hz];have HZ:=kp hz;clear hz;have HX:=kp hxs;have HY:=kp hys;have HP:=kp hp;have HQ:=kp hq;clear hxs hys hp hq
 go_enter Tryz.func93,Tryz.ntmps93
 go_wp2_with (with_reducible first|refine wpl_boxd (o:=⟨some 2,_,_,_,_,_⟩) rfl rfl rfl ?_);intro w1 hb1 hbw1 hsz1 hdw1;generalize hgd:w.heap.size=g at *;go_wp2_with (with_reducible first|refine wpl_boxd (o:=⟨some 3,_,_,_,_,_⟩) rfl rfl rfl ?_);intro w2 hb2 hbw2 hsz2 hdw2;try rw[hsz1]at hb2 hsz2 ⊢
 have H2:=kp hb2;have H1:=kp (hb1.below hbw2 (by omega));have HBW:=kp (hbw1.trans (hbw2.mono (by omega)));have HSZ:=kq (g≤w2.heap.size) (by omega);have HDW:=kq (w.drawn≤w2.drawn) (by omega);clear hdw1 hdw2;clear hb1 hb2 hbw1 hbw2 hsz1 hsz2;generalize hg2:g+1=g2 at *;have c1:w2.cell? ⟨g,32,none⟩=some (.int .i64 p.2):=H1.o.at_ (by rw[HX.o];exact ptV_ix HP.o);have c2:w2.cell? ⟨g2,32,none⟩=some (.int .i64 q.2):=H2.o.at_ (by rw[HY.o];exact ptV_ix HQ.o);have s1:=kp (Blk.ptSl (p:=p) (by rw[← HX.o];exact H1.o) HP.o);have s2:=kp (Blk.ptSl (p:=q) (by rw[← HY.o];exact H2.o) HQ.o);have C1:=kp c1;have C2:=kp c2;have HG:=kp hgd;clear c1 c2 hgd hg2;repeat' (first|(with_reducible refine wp_tail (id:=1) 10 (by kernel_rfl) (by kernel_rfl) ?_)|go_values|go_skip|go_guarded|go_step|go_upon|go_back)
 intro w3 hd3;simp only [List.take_succ_cons,List.take_zero,List.drop_succ_cons,List.drop_zero];have c1:=(hd3.cell _).trans C1.o;have c2:=(hd3.cell _).trans C2.o;have hbc:=bcmp_any _ _ 32 32 32 32 p.1 q.1 w3 (hd3.sl s1.o) (hd3.sl s2.o);have hcc:=cmpi_any p.2 q.2 w3;have hoo:=fun w=>or_two (Lib.compareBytes p.1 q.1) (cmpI p.2 q.2) w
 rw[show(if Lib.compareBytes p.1 q.1=0 then cmpI p.2 q.2 else Lib.compareBytes p.1 q.1)=z from HZ.o.symm]at hoo;generalize cmpI p.2 q.2=y at *;generalize Lib.compareBytes p.1 q.1=x at *;have HBC:=kp hbc;have HCC:=kp hcc;have HOO:=kp hoo;have HB3:=kp (hd3.below HBW.o);have HSZ3:=kq (g≤w3.heap.size) (by rw[hd3.size];exact HSZ.o);have HDW3:=kq (w.drawn≤w3.drawn) (Nat.le_trans HDW.o hd3.drawn);clear hbc hcc hd3 hoo;repeat still_step
 still_call (HBC.o.mono fun _ _ ⟨he,hw⟩=>⟨he,hw.symm⟩)
 repeat still_step
 still_call (HCC.o.mono fun _ _ ⟨he,hw⟩=>⟨he,hw.symm⟩)
 repeat still_step
 try refine wpStill_nil ?_
 clear c1 c2;go_wp2_with fail;refine(HOO.o _).mono ?_;rintro e w' ⟨rfl,rfl⟩;go_wp2_with fail;go_ret
 exact⟨rfl,Gr.of (by rw[HG.o];exact HB3.o.alloc HSZ3.o _) HDW3.o⟩
open Go.RowKit Go.Sort
section
variable {α:Type} [Inhabited α]
theorem fmk_len(enc:α→List Value)(k:Nat)(hk:∀x,(enc x).length=k):∀l:List α,(l.flatMap enc).length=l.length*k
 |[]=>by simp
 | x::l=>by rw[List.flatMap_cons,List.length_append,fmk_len enc k hk l,hk,List.length_cons,Nat.add_mul];omega
theorem fmk_get(enc:α→List Value)(k:Nat)(h0:0 < k)(hk:∀x,(enc x).length=k):∀(l:List α) (t:Nat),t < l.length*k→(l.flatMap enc)[t]? = some ((enc l.toArray[t / k]!)[t % k]!)
 |[],t,h=>by simp at h
 | x::l,t,h=>by
  rw[List.flatMap_cons];by_cases ht:t < k
  ·rw[List.getElem?_append_left (by rw[hk];exact ht),Nat.div_eq_of_lt ht,Nat.mod_eq_of_lt ht,List.getElem?_eq_getElem (by rw[hk];exact ht)];simp [hk,ht]
  ·have hge:k≤t:=by omega
   rw[List.getElem?_append_right (by rw[hk];exact hge),hk];have hlt:t - k < l.length*k:=by rw[List.length_cons,Nat.add_mul]at h;omega
   rw[fmk_get enc k h0 hk l (t - k) hlt]
   have e1:t / k=(t - k) / k+1:=by
    conv=>lhs;rw[show t=(t - k)+k by omega]
    exact Nat.add_div_right _ h0
   have e2:t % k=(t - k) % k:=by
    conv=>lhs;rw[show t=(t - k)+k by omega]
    exact Nat.add_mod_right _ _
   rw[e1,e2];have hq:(t - k) / k < l.length:=Nat.div_lt_of_lt_mul (by rw[Nat.mul_comm];exact hlt)
   congr 3
   simp [hq]
theorem flatK_list(enc:α→List Value)(k:Nat)(h0:0 < k)(hk:∀x,(enc x).length=k)(l:List α):(flatK enc k l.toArray).toList=l.flatMap enc:=by
 apply List.ext_getElem?
 intro t;by_cases ht:t < l.length*k
 ·rw[fmk_get enc k h0 hk l t ht];unfold flatK;simp [ht]
 ·rw[List.getElem?_eq_none (by rw[Array.length_toList,size_flatK,List.size_toArray];omega),List.getElem?_eq_none (by rw[fmk_len enc k hk];omega)]
theorem holdsK_of_own{w:World}{g:Nat}{cur:Array Value}{e:TypeId}(enc:α→List Value)(k:Nat)(h0:0 < k)(hk:∀x,(enc x).length=k){l:List α}(hb:w.heap[g]? = some (.cells cur e (0,0)))(ht:cur.toList.take (l.length*k)=l.flatMap enc):HoldsK enc k w g 0 l.toArray:=by
 intro j hj;have hj':j < l.length*k:=by simpa using hj
 refine⟨?_,by simp [World.frozen?,hb]⟩;have h1:(cur.toList.take (l.length*k))[j]? =(l.flatMap enc)[j]?:=by rw[ht]
 rw[List.getElem?_take_of_lt hj',← flatK_list enc k h0 hk l]at h1;simp only [World.cell?,hb,Nat.zero_add];simp only [Option.isSome_none,Bool.false_eq_true,if_false];rw[← Array.getElem?_toList,h1,Array.getElem?_toList,Array.getElem?_eq_getElem hj,getElem!_pos _ j hj]
 rfl
theorem heap_sortedK {w : World} {g n : Nat} {os : Array Obj} {cur : Array Value} {e : TypeId} {fr : Nat × Nat} (enc : α → List Value) (k : Nat) (d : Array α) (hb : w.heap[g]? = some (.cells cur e fr)) :
  (sortWorldK enc k w g 0 n d os).heap[g]? = some (.cells (putCells id 0 (flatK enc k d) cur) e fr):=by
 have hg:g < w.heap.size:=(Array.getElem?_eq_some_iff.1 hb).1;unfold sortWorldK;rw[heap_grow_old _ _ (by simpa [putRowK,putRow,mapBlock,Sort.ahead] using hg)];simp [putRowK,putRow,mapBlock,Sort.ahead,Array.getElem?_modify,hb,onCells]
theorem grownBy_sortedK{w:World}{g n:Nat}{os:Array Obj}(enc:α→List Value)(k:Nat)(d:Array α):w.grownBy (sortWorldK enc k w g 0 n d os) (some g):=by
 unfold sortWorldK;refine⟨rfl,rfl,rfl,by simp [putRowK,putRow,mapBlock,Sort.ahead],fun j hj hne=>?_⟩;rw[heap_grow_old _ _ (by simpa [putRowK,putRow,mapBlock,Sort.ahead] using hj)];have:g≠j:=fun e=>hne (by rw[e])
 simp [putRowK,putRow,mapBlock,Sort.ahead,Array.getElem?_modify,this]
theorem take_putCellsK(cur F:Array Value)(h:F.size≤cur.size):(putCells id 0 F cur).toList.take F.size=F.toList:=by
 apply List.ext_getElem?
 intro j;by_cases hj:j < F.size
 ·rw[List.getElem?_take_of_lt hj,Array.getElem?_toList];simp [putCells,hj,show j < cur.size by omega]
 ·rw[List.getElem?_take_eq_none (by omega),List.getElem?_eq_none (by simp;omega)]
theorem ownsRow_sortedK {w : World} {base g cap n : Nat} {e : TypeId} {os : Array Obj} {cur : Array Value} (enc : α → List Value) (k : Nat) (h0 : 0 < k) (hk : ∀ x, (enc x).length = k) {ss ts : List α} (hl : ts.length = ss.length) (hbase : base ≤ g) (hb : w.heap[g]? = some (.cells cur e (0, 0)))
  (h1:ss.length≤cap) (h2:cap≤maxLen) (h3:cur.size=cap*k) :
  (sortWorldK enc k w g 0 n ts.toArray os).ownsRow base e k (.slice (some ⟨g,0,none⟩) ss.length cap) ss.length (ts.flatMap enc):=by
 have hm:ss.length*k≤cap*k:=Nat.mul_le_mul_right _ h1;refine⟨by rw[fmk_len enc k hk,hl],.inr ⟨g,cap,_,rfl,hbase,heap_sortedK enc k _ hb,h1,h2,by simp [putCells,h3],?_⟩⟩;have hs:(flatK enc k ts.toArray).size=ss.length*k:=by rw[size_flatK,List.size_toArray,hl]
 rw[← hs,take_putCellsK _ _ (by omega),flatK_list enc k h0 hk]
end
end Go.Proofs.YtnnjjbkdjkjnpaaGreatDoor
namespace Go.Proofs.YtnnjjbkdjkjnpaaGreatDoor
open Go.RowKit Go.Sort
abbrev PtS:={ p:PtK // PtOK p }
instance:Inhabited PtS:=⟨⟨pt 0,pt_ok 0 (by decide)⟩⟩
def encPt(p:PtS):List Value:=ptV p.1
theorem encPt_len(p:PtS):(encPt p).length=33:=ptV_length p.2.1
theorem encPt_one(p:PtS):∀v∈encPt p,v.oneCell'=true:=by
 intro v hv;unfold encPt ptV at hv;rcases List.mem_append.1 hv with hv|hv
 ·obtain⟨x,_,rfl⟩:=List.mem_map.1 hv;rfl
 ·have:v=.int .i64 p.1.2:=by simpa using hv
  rw[this];rfl
theorem encPt_inj{p q:PtS}(h:encPt p=encPt q):p=q:=Subtype.ext (ptA_inj p.2.1 q.2.1 (by unfold ptA;unfold encPt at h;rw[h]))
def cfPt(p q:PtS):Int:=cmpP p.1 q.1
theorem lt_pt(p q:PtS):ltOf cfPt p q=true↔cmpP p.1 q.1=-1:=by
 have:=cmpP_range p.1 q.1;unfold ltOf cfPt;rw[decide_eq_true_eq];omega
theorem nlt_pt(p q:PtS):ltOf cfPt p q=false↔cmpP q.1 p.1≤0:=by
 have h1:=cmpP_range p.1 q.1;have h2:=cmpP_neg p.1 q.1;unfold ltOf cfPt;rw[decide_eq_false_iff_not];omega
theorem swo_pt:SWO (ltOf cfPt) where
 irrefl p:=by rw[nlt_pt];have:=(cmpP_zero p.1 p.1).2 rfl;omega
 trans x y z h1 h2:=by
  rw[lt_pt]at *;have a1:=cmpP_trans x.1 y.1 z.1 (by omega) (by omega);have a2:=cmpP_range x.1 z.1
  have a3:cmpP x.1 z.1≠0:=fun e=>by
   have e2:=(cmpP_zero x.1 z.1).1 e;rw[← e2]at h2;have:=cmpP_neg x.1 y.1;omega
  omega
 ntrans x y z h1 h2:=by
  rw[nlt_pt]at *;exact cmpP_trans z.1 y.1 x.1 h2 h1
theorem tot_pt(x y:PtS)(h1:ltOf cfPt x y=false)(h2:ltOf cfPt y x=false):x=y:=by
 rw[nlt_pt]at h1 h2;have h3:=cmpP_neg x.1 y.1;exact Subtype.ext ((cmpP_zero x.1 y.1).1 (by omega))
theorem lays_pt_cmp(blk off size:Nat)(w:World):CmpLays Tryz.prog 93 #[] encPt 33 cfPt blk off size w:=
 fun _ _ _ _ x y=>ccmpg_any x.1 y.1 _ x.2.1 y.2.1
theorem info_pt:(Tryz.prog.info? 69).map (fun i=>(i.zero,i.size,i.bytes))=some (some (.agg (ptV (pt 0)).toArray),33,40):=by kernel_rfl
theorem el_pt:ElemT Tryz.prog 55 69 33 40:=elemT Tryz.underlying55 info_pt rfl (by omega)
def sortP(l:List PtS):List PtS:=l.mergeSort fun x y=>!(ltOf cfPt) y x
theorem sortP_len(l:List PtS):(sortP l).length=l.length:=List.length_mergeSort ..
theorem sortP_perm(l:List PtS):(sortP l).Perm l:=List.mergeSort_perm ..
open Go.RowKit
open Go.ChangeMaps (setBlock)
structure ItAt (w:World) (b r:Nat) (es:Array MapEntry) (clock:Nat) (vs:List MapEntry):Prop where
 map:w.heap[b]? = some (.map es clock)
 it:∃since seen c0,w.heap[r]? = some (.mapIter (some b) since seen c0)∧seen.toList=vs.map (·.born)∧(∀x∈es.toList,x.born < since)∧since≤c0∧since≤clock
 sub:∀e∈vs,e∈es.toList
 nd:(vs.map (·.born)).Nodup
def itLeft(w:World)(b r:Nat):Nat:=
 match w.heap[b]?,w.heap[r]? with
 | some (.map es _),some (.mapIter _ _ seen _)=>es.size - seen.size
 | _,_=>0
section
variable {P:Program} {w w':World} {b r clock:Nat} {es:Array MapEntry} {vs:List MapEntry} {k t e:TypeId}
theorem ItAt.of_walks(h:ItAt w b r es clock vs)(hk:KeepsWalks w w'):ItAt w' b r es clock vs:=by
 obtain⟨h1,⟨since,seen,c0,h2,h3⟩,h4,h5⟩:=h;exact⟨hk.same b _ h1 rfl,⟨since,seen,c0,hk.same r _ h2 rfl,h3⟩,h4,h5⟩
theorem ItAt.walk(h:ItAt w b r es clock vs):∃o:Obj,w.heap[r]? = some o∧o.isWalk=true:=by
 obtain⟨_,⟨since,seen,c0,h2,_⟩,_,_⟩:=h;exact⟨_,h2,rfl⟩
theorem ItAt.left_eq(h:ItAt w b r es clock vs):itLeft w b r=es.size - vs.length:=by
 obtain⟨h1,⟨since,seen,c0,h2,h3,_⟩,_,_⟩:=h;unfold itLeft;rw[h1,h2];simp only;have:=congrArg List.length h3;rw[Array.length_toList,List.length_map]at this;rw[this]
theorem ItAt.lt(h:ItAt w b r es clock vs):r < w.heap.size∧b < w.heap.size:=by
 obtain⟨h1,⟨since,seen,c0,h2,_⟩,_,_⟩:=h;exact⟨(Array.getElem?_eq_some_iff.1 h2).1,(Array.getElem?_eq_some_iff.1 h1).1⟩
theorem ItAt.len(h:ItAt w b r es clock vs):vs.length≤es.size:=by
 have h1:vs.Nodup:=by
  have:=h.nd;unfold List.Nodup at this ⊢;rw[List.pairwise_map]at this;exact this.imp (fun hne e=>hne (by rw[e]))
 have:=h1.length_le_of_subset (l₂:=es.toList) (fun x hx=>h.sub x hx)
 rwa [Array.length_toList]at this
theorem it_range (ht : P.underlying t = some (.map k e)) (hb : w.heap[b]? = some (.map es clock)) (hm : MapOK P k es clock) :
  ∃w',(Instr.range t (.map (some b))).run P w=.ok (.pointer (some ⟨w.heap.size,0,none⟩)) w'∧ItAt w' b w.heap.size es clock []∧w.grownBy w' none∧w'.heap.size=w.heap.size+1:=by
 have hlt:=(Array.getElem?_eq_some_iff.1 hb).1;refine⟨_,run_range_map w t k e b es clock ht hb,⟨((MapKept.heap_alloc w _).2 b hlt).trans hb,⟨clock,#[],clock,(MapKept.heap_alloc w _).1,rfl,hm.young,Nat.le_refl _,Nat.le_refl _⟩,by simp,by simp⟩,World.grownBy_alloc w _ none,by simp⟩
theorem it_next (h : ItAt w b r es clock vs) (hm : MapOK P k es clock) (ty : TypeId) :
  (vs.Perm es.toList∧(Instr.next (.pointer (some ⟨r,0,none⟩)) false ty).run P w=.ok (.tuple #[.bool false]) w) ∨
  ∃en w',en∈es.toList∧(Instr.next (.pointer (some ⟨r,0,none⟩)) false ty).run P w=.ok (.tuple #[.bool true,en.key,en.val]) w'∧ItAt w' b r es clock (vs++[en])∧vs.length < es.size∧w.grownBy w' (some r)∧w'.heap.size=w.heap.size ∧
   (Instr.entry (.pointer (some ⟨r,0,none⟩))).run P w'=.ok (.tuple #[en.key,en.val]) w':=by
 have hlen:=h.len;have hltr:=h.lt.1;have hltb:=h.lt.2
 have hnv:vs.Nodup:=by
  have:=h.nd;unfold List.Nodup at this ⊢;rw[List.pairwise_map]at this;exact this.imp (fun hne e=>hne (by rw[e]))
 have hne:es.toList.Nodup:=by
  have:=hm.born;unfold List.Nodup at this ⊢;rw[List.pairwise_map]at this;exact this.imp (fun hne e=>hne (by rw[e]))
 obtain⟨h1,⟨since,seen,c0,h2,h3,hold,hsc,hsk⟩,h4,h5⟩:=h
 have hseen:∀x:MapEntry,seen.contains x.born=true↔x.born∈vs.map (·.born):=fun x=>by
  rw[← h3,Array.contains_iff_mem,Array.mem_toList_iff]
 rcases run_next_at (P:=P) w ty r b since c0 seen es clock h2 h1 hold hsc with ⟨h0,hrun⟩|⟨en,hen,w1,hal,hrun⟩
 ·refine .inl ⟨(List.perm_ext_iff_of_nodup hnv hne).2 fun x=>⟨h4 x,fun hx=>?_⟩,hrun⟩;have hc:seen.contains x.born=true:=all_seen es seen h0 x hx;obtain⟨y,hy,hyb⟩:=List.mem_map.1 ((hseen x).1 hc);have hye:=h4 y hy
  have:y=x:=by
   have hp:=hm.born;unfold List.Nodup at hp;rw[List.pairwise_map]at hp
   exact Classical.byContradiction fun hyx=>by
    obtain⟨i,hi,rfl⟩:=List.getElem_of_mem hye;obtain⟨j,hj,rfl⟩:=List.getElem_of_mem hx;have hij:i≠j:=fun e=>hyx (by subst e;rfl)
    rcases Nat.lt_or_gt_of_ne hij with q|q
    ·exact List.pairwise_iff_getElem.1 hp i j hi hj q hyb
    ·exact List.pairwise_iff_getElem.1 hp j i hj hi q hyb.symm
  rw[← this];exact hy
 ·have hin : en ∈ es.toList ∧ seen.contains en.born = false := by
   unfold leftOf at hen;rw[Array.toList_filter,List.mem_filter]at hen;exact⟨hen.1,by simpa using hen.2⟩
  have hnot:en.born∉vs.map (·.born):=fun hh=>by rw[(hseen en).2 hh]at hin;cases hin.2
  have hr1:w1.heap[r]? = some (.mapIter (some b) since seen c0):=by rcases hal with rfl|rfl <;> exact h2
  have hb1:w1.heap[b]? = some (.map es clock):=by rcases hal with rfl|rfl <;> exact h1
  have hne2:r≠b:=fun e=>by rw[e,h1]at h2;cases h2
  have hgr:w1.grownBy (setBlock w1 r (.mapIter (some b) since (seen.push en.born) clock)) (some r):=withBlk_grown w1 r _;have hmap:(setBlock w1 r (.mapIter (some b) since (seen.push en.born) clock)).heap[b]? = some (.map es clock):=(hgr.block b (Array.getElem?_eq_some_iff.1 hb1).1 (fun e=>by injection e with e;exact hne2 e.symm)).trans hb1;have hit:(setBlock w1 r (.mapIter (some b) since (seen.push en.born) clock)).heap[r]? = some (.mapIter (some b) since (seen.push en.born) clock):=withBlk_heap hr1
  have hnd:((vs++[en]).map (·.born)).Nodup:=by
   rw[List.map_append,List.nodup_append];refine⟨h5,by simp,fun a ha c hc hac=>?_⟩;have:c=en.born:=by simpa using hc
   subst this;subst hac;exact hnot ha
  refine .inr ⟨en,_,hin.1,hrun,⟨hmap,⟨since,seen.push en.born,clock,hit,by simp [h3],hold,hsk,hsk⟩,fun x hx=>?_,hnd⟩,?_,?_,?_,run_entry_at _ r b since seen es clock en hit hmap hin.1 hm.born⟩
  ·rcases List.mem_append.1 hx with hx|hx
   ·exact h4 x hx
   ·have:x=en:=by simpa using hx
    rw[this];exact hin.1
  ·have hnv2 : (vs ++ [en]).Nodup := by
    unfold List.Nodup at hnd ⊢;rw[List.pairwise_map]at hnd;exact hnd.imp (fun hne e=>hne (by rw[e]))
   have:=hnv2.length_le_of_subset (l₂:=es.toList) (fun x hx=>by
    rcases List.mem_append.1 hx with hx|hx
    ·exact h4 x hx
    ·have:x=en:=by simpa using hx
     rw[this];exact hin.1)
   have e1:=Array.length_toList (xs:=es);rw[List.length_append,List.length_singleton]at this;omega
  ·rcases hal with rfl|rfl
   ·exact hgr
   ·exact⟨hgr.os,hgr.tape,hgr.output,hgr.size,hgr.block⟩
  ·rcases hal with rfl|rfl <;> exact withBlk_size _ _ _
end
section
variable {F:Fence} {n:Nat} {P:Program} (w:World) {ops:Array Oper} {rest:List Oper} {o:Oper} {a:Act} {Q:Exit→Act→World→Prop} {k t e:TypeId} {es:Array MapEntry} {clock b r:Nat} {vs:List MapEntry}
theorem wpi_range (hg : o.guard = none) {m : Operand} (hop : o.op = Op.range t m) (ht : P.underlying t = some (.map k e)) (hm : a.eval m = .map (some b)) (hb : w.heap[b]? = some (.map es clock)) (hk : MapOK P k es clock)
  (hK:∀w',ItAt w' b w.heap.size es clock []→w.grownBy w' none→w'.heap.size=w.heap.size+1→wpListIn F n P ops Q rest (a.put o.dst (.pointer (some ⟨w.heap.size,0,none⟩))) w'):wpListIn F n P ops Q (o::rest) a w:=by
 refine wpListIn_plain hg fun K' hK'=>?_
 obtain⟨w',hrun,r1,r2,r3⟩:=it_range ht hb hk;unfold Oper.wpIn;refine⟨?_,?_⟩
 ·simp [Oper.about,hop]
 ·rw[Oper.semAt_plain F _ _ (by rw[hop];intro c hc';cases hc')];simp [execOp,hop,hm,hrun,Result.andThen];exact hK' _ _ (hK w' r1 r2 r3)
theorem wpi_next (hg : o.guard = none) {it : Operand} (hop : o.op = Op.next it false) (hit : a.eval it = .pointer (some ⟨r, 0, none⟩)) (h : ItAt w b r es clock vs) (hk : MapOK P k es clock)
  (hDone:vs.Perm es.toList→wpListIn F n P ops Q rest (a.put o.dst (.tuple #[.bool false])) w)
  (hMore:∀(en:MapEntry) (w':World),en∈es.toList→ItAt w' b r es clock (vs++[en])→vs.length < es.size→w.grownBy w' (some r)→w'.heap.size=w.heap.size→(Instr.entry (.pointer (some ⟨r,0,none⟩))).run P w'=.ok (.tuple #[en.key,en.val]) w'→wpListIn F n P ops Q rest (a.put o.dst (.tuple #[.bool true,en.key,en.val])) w') :
  wpListIn F n P ops Q (o::rest) a w:=by
 refine wpListIn_plain hg fun K' hK'=>?_
 unfold Oper.wpIn;refine⟨by simp [Oper.about,hop],?_⟩;rw[Oper.semAt_plain F _ _ (by rw[hop];intro c hc';cases hc')];rcases it_next h hk o.type with ⟨h0,hrun⟩|⟨en,w',h1,hrun,h2,h3,h4,h5,h6⟩
 ·simp [execOp,hop,hit,hrun,Result.andThen];exact hK' _ _ (hDone h0)
 ·simp [execOp,hop,hit,hrun,Result.andThen];exact hK' _ _ (hMore en w' h1 h2 h3 h4 h5 h6)
end
end Go.Proofs.YtnnjjbkdjkjnpaaGreatDoor
namespace Go.Proofs.YtnnjjbkdjkjnpaaGreatDoor
open Go.RowKit
section
variable {F:Fence} {n:Nat} {P:Program} {w:World} {ops:Array Oper} {rest:List Oper} {o:Oper} {a:Act} {Q:Exit→Act→World→Prop}
theorem wpi_run(hg:o.guard=none)(hc:∀c,o.op≠.call c)(hd:∀c,o.op≠.defer c){r:Result Next}(hr:(execOp a.eval o).run P w=r)(h:∀K:Act→World→Prop,(∀a w,wpListIn F n P ops Q rest a w→K a w)→o.uponIn F n P a K Q r):wpListIn F n P ops Q (o::rest) a w:=by
 refine wpListIn_plain hg fun K hK=>?_
 unfold Oper.wpIn;refine⟨?_,?_⟩
 ·intro f hf;unfold Oper.about at hf;split at hf
  ·rename_i c hcc;exact absurd hcc (hc c)
  ·cases hf
 ·rw[Oper.semAt_plain F _ _ hd,hr];exact h K hK
theorem wpi_alloc (hgd : o.guard = none) {T : TypeId} (ho : o.op = .alloc T) {zs : List Value} (hz : (P.info? T).map (·.zero) = some (some (.agg zs.toArray)))
  (h:∀w',Blk w' w.heap.size T zs→w'=w.alloc (.cells zs.toArray T)→wpListIn F n P ops Q rest (a.put o.dst (.pointer (some ⟨w.heap.size,0,none⟩))) w'):wpListIn F n P ops Q (o::rest) a w:=by
 obtain⟨i,hi,hzz⟩:=Option.map_eq_some_iff.1 hz
 have hrun:(Instr.alloc T true (.tuple #[])).run P w=.ok (.pointer (some ⟨w.heap.size,0,none⟩)) (w.alloc (.cells zs.toArray T)):=by
  simp [Instr.alloc,zeroValue,typeInfo,hi,hzz,newVar,newRow,Value.cells]
 refine wpi_run hgd (by rw[ho];intro c e;cases e) (by rw[ho];intro c e;cases e) (r:=.ok (.value (.pointer (some ⟨w.heap.size,0,none⟩))) (w.alloc (.cells zs.toArray T))) ?_ (fun K hK=>hK _ _ (h _ (heap_alloc_new _ _) rfl));unfold execOp;simp only [ho,Sem.run_bind,hrun,Result.andThen_ok,Sem.run_pure]
theorem wpi_storeb (hgd : o.guard = none) {T : TypeId} {x y : Operand} (ho : o.op = .store T x y) {m : Nat} (hT : RowT P T m) {g : Nat} {t : TypeId} {old cs : List Value} (hb : Blk w g t old) (hx : a.eval x = .pointer (some ⟨g, 0, none⟩)) (hy : a.eval y = .agg cs.toArray)
  (hol:old.length=m) (hn:cs.length=m) (h1:∀u∈cs,u.oneCell'=true)
  (h:∀w',Blk w' g t cs→w.grownBy w' (some g)→w'.heap.size=w.heap.size→wpListIn F n P ops Q rest (a.put o.dst undef) w'):wpListIn F n P ops Q (o::rest) a w:=by
 have hk:=h _ (setRow_heap w g _ _ t _ hb) ⟨rfl,rfl,rfl,by simp,fun k _ hk=>setRow_other w g k _ (fun e=>hk (by simp [e]))⟩ (by simp);refine wpListIn_plain hgd fun K hK=>?_
 unfold Oper.wpIn;refine⟨?_,?_⟩
 ·intro f hf;simp only [Oper.about,ho]at hf;cases hf
 ·rw[Oper.semAt_plain F _ _ (by rw[ho];intro c e;cases e)];unfold execOp;simp only [ho,hx,hy,Sem.run_bind,run_storeb hT hb hol hn h1,Result.andThen_ok,Sem.run_pure];exact hK _ _ hk
theorem wpi_loadb (hgd : o.guard = none) {T : TypeId} {x : Operand} (ho : o.op = .load T x) {m : Nat} (hT : RowT P T m) {g : Nat} {t : TypeId} {cs : List Value} (hb : Blk w g t cs) (hx : a.eval x = .pointer (some ⟨g, 0, none⟩)) (hn : cs.length = m)
  (h:wpListIn F n P ops Q rest (a.put o.dst (.agg cs.toArray)) w):wpListIn F n P ops Q (o::rest) a w:=by
 obtain⟨d,hu,hd,hi⟩:=hT;have hrun:=run_loadVar_row (P:=P) w g t T cs.toArray (0,0) d hb hu (by revert hd;cases d <;> simp) (by rw[hi];simp [hn]);refine wpListIn_plain hgd fun K hK=>?_
 unfold Oper.wpIn;refine⟨?_,?_⟩
 ·intro f hf;simp only [Oper.about,ho]at hf;cases hf
 ·rw[Oper.semAt_plain F _ _ (by rw[ho];intro c e;cases e)];unfold execOp;simp only [ho,hx,Instr.loadAt,Instr.sureAddr,Sem.run_bind,Sem.run_pure,Result.andThen_ok,hrun];exact hK _ _ h
theorem run_row1i {t e : TypeId} {sz bytes : Nat} (HE : ElemT P t e sz bytes) {ys : List Value} (hl : ys.length = sz) (h24 : sz ≤ 16777216) :
  (Instr.buildSlice t 1 #[(0,.agg ys.toArray)]).run P w=.ok (.slice (some ⟨w.heap.size,0,none⟩) 1 1) (w.alloc (.cells ys.toArray e)):=by
 obtain⟨i,z,hi,hz,hsz,hby,hzs,h0⟩:=HE.hi;have h1:¬ (16777216 < i.size):=by omega
 have h2:¬ (i.size=0):=by omega
 have hf:Instr.fill (fun k=>some (k*i.size,i.size)) ((Array.range i.size).map fun k=>z.cells[k % z.cells.size]!) [(0,.agg ys.toArray)]=some ys.toArray:=by
  obtain⟨cs,hcs⟩:∃cs:List Value,cs=((Array.range i.size).map fun k=>z.cells[k % z.cells.size]!).toList:=⟨_,rfl⟩;have e1:((Array.range i.size).map fun k=>z.cells[k % z.cells.size]!)=cs.toArray:=by rw[hcs]
  have hcl:cs.length=i.size:=by rw[hcs];simp
  rw[e1,fill_cons (off:=0) (s:=i.size) (cs:=ys) (by simp) rfl (by omega) (by omega),fill_nil]
  congr 2
  unfold splice;rw[List.drop_of_length_le (by omega)];simp
 simp [Instr.buildSlice,run_underlying HE.ht,sizeOf,typeInfo,zeroValue,hi,hz,h1,h2,hf,newRow]
theorem wpi_row1 (hgd : o.guard = none) {t : TypeId} {x : Operand} (ho : o.op = .buildSlice t 1 #[(0, x)]) {e : TypeId} {sz bytes : Nat} (HE : ElemT P t e sz bytes) {ys : List Value}
  (hx:a.eval x=.agg ys.toArray) (hl:ys.length=sz) (h24:sz≤16777216)
  (h:∀w',Blk w' w.heap.size e ys→w'=w.alloc (.cells ys.toArray e)→wpListIn F n P ops Q rest (a.put o.dst (.slice (some ⟨w.heap.size,0,none⟩) 1 1)) w'):wpListIn F n P ops Q (o::rest) a w:=by
 have hr:=run_row1i (P:=P) (w:=w) HE hl h24;refine wpi_run hgd (by rw[ho];intro c e;cases e) (by rw[ho];intro c e;cases e) (r:=.ok (.value (.slice (some ⟨w.heap.size,0,none⟩) 1 1)) (w.alloc (.cells ys.toArray e))) ?_ (fun K hK=>hK _ _ (h _ (heap_alloc_new _ _) rfl));unfold execOp;simp only [ho,List.map_toArray,List.map_cons,List.map_nil,hx,Sem.run_bind,hr,Result.andThen_ok,Sem.run_pure]
end
theorem cell_row_new(w:World)(ys:List Value)(e:TypeId):∀(j:Nat) (u:Value),ys[j]? = some u→(w.alloc (.cells ys.toArray e)).cell? ((⟨w.heap.size,0,none⟩:Addr).add j)=some u:=by
 intro j u hj;rw[Addr.add_lit,Nat.zero_add];have h:Blk (w.alloc (.cells ys.toArray e)) w.heap.size e ys:=heap_alloc_new _ _;exact h.at_ hj
end Go.Proofs.YtnnjjbkdjkjnpaaGreatDoor

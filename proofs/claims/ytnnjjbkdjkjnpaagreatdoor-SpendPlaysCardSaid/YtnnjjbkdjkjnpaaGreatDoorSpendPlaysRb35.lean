/- The contract of spend.Lock. -/
import Derived.Test.YtnnjjbkdjkjnpaaGreatDoorSpendPlaysRb32
set_option linter.unusedSimpArgs false
set_option linter.unusedVariables false
set_option maxRecDepth 100000
set_option maxHeartbeats 16000000
namespace Go.Proofs.YtnnjjbkdjkjnpaaGreatDoor
open Go.RowKit Go.Shelf
theorem NatsAt.touchK{w w':World}{g b lo:Nat}{A:Option Addr}{ks:List Nat}{L:LocksL}{s:Int}(h:NatsAt w lo A ks)(hc:LocksAt w g b L s)(ht:Touched [g,b] w w'):NatsAt w' lo A ks:=
 h.off (fun q hq hn=>by
  obtain⟨q',off,x,h1,h2,h3⟩:=h.first hn
  rw[h1]at hq;obtain rfl:q'=q:=Option.some.inj hq;refine ht.block q' h2 ?_;simp only [List.mem_cons,List.not_mem_nil,or_false,not_or];constructor
  ·rintro rfl;have h5:=hc.blk.cell off;rw[h3]at h5
   match off,h5 with
   | 0,h5=>cases h5
   | 1,h5=>cases h5
   | k+2,h5=>cases h5
  ·rintro rfl;obtain⟨es,clock,h6,_⟩:=hc.map;obtain⟨o,h7,h8⟩:=cells_of_cell h3
   rw[h6]at h7;cases h7;cases h8) ht.size
theorem Touched.wide{w w':World}{l m:List Nat}(h:Touched l w w')(hl:∀x∈l,x∈m):Touched m w w':=⟨h.os,h.tape,h.output,h.size,fun k hk hne=>h.block k hk (fun hh=>hne (hl k hh))⟩
theorem putK_after {w : World} {g b : Nat} {X L : LocksL} {s : Int} {p : PtK} {c : LockV} (hr : RelK X L s) (hp : PtOK p) (hc : LockOK c)
  (h1:putQ L s p c.1=0→LocksAt w g b (L++[(p,(c.1,c.2))]) (addE s c.1.2).1) (h2:putQ L s p c.1≠0→LocksAt w g b L s):∃L' s',LocksAt w g b L' s'∧RelK (rputK X p c).1 L' s':=by
 by_cases h0:putQ L s p c.1=0
 ·exact⟨_,_,h1 h0,hr.put hp hc h0⟩
 ·exact⟨L,s,h2 h0,by rw[rputK_same (by rw[hr.code p c hc];exact h0)];exact hr⟩
theorem inputs_ok'{X:CoinsL}{Y:LocksL}{t:Txn}{n me:Int}(h:(inputsR X Y t n me).2=0):checkT t=0∧hereI t n me≠[]:=by
 by_cases h1:checkT t=0
 ·refine⟨h1,fun h2=>?_⟩;unfold inputsR at h;rw[if_neg (by omega),if_pos h2]at h;simp at h
 ·exfalso;unfold inputsR at h;rw[if_pos h1]at h;exact h1 h
theorem lock_any {tv : List Value} {t : Txn} (n me : Int) {X L : CoinsL} {Y K : LocksL} {s s2 : Int} {g b g2 b2 : Nat} (w : World) (h : TxKeep w [g, b, g2, b2] tv t) (ht : Tabs w) (hc : CoinsAt w g b L s) (hrc : RelC X L s) (hk : LocksAt w g2 b2 K s2) (hrk : RelK Y K s2) (hne : g2 ∉ [g, b] ∧ b2 ∉ [g, b] ∧ g ∉ [g2, b2] ∧ b ∉ [g2, b2]) :
  Calls Tryz.prog 17 #[.agg tv.toArray,.int .i64 n,.int .i64 me,.pointer (some ⟨g,0,none⟩),.pointer (some ⟨g2,0,none⟩)] w fun e w'=>e=.returned (.tuple #[.int .u64 (lockR X Y t n me).2.1,.int .i64 (lockR X Y t n me).2.2])∧(∃L' s',CoinsAt w' g b L' s'∧RelC (lockR X Y t n me).1.1 L' s')∧(∃K' s',LocksAt w' g2 b2 K' s'∧RelK (lockR X Y t n me).1.2 K' s')∧Touched [g,b,g2,b2] w w':=by
 have HTC:=kp h.now.cl;have HIP:=kp (fun w' (k:Grow w w')=>inputs_any n me w' (h.now.grow k) (hc.call k) hrc (hk.call k) hrk (ht.grow k));have HAT:=kp (fun w' (k:Grow w w')=>at_any n me w' (h.now.grow k) (ht.grow k));have HID:=kp (fun w' (k:Grow w w')=>(h.now.grow k).id (tid_dig t) (ht.grow k));have HZ:=kp (tid_dig t);have HCN:=kp hc;have HRC:=kp hrc;have HTX:=kp h;have HKN:=kp hk;have HRK:=kp hrk;have HNE:=kp hne;have HLX:=kp hrk.lenX;have hmx:=hrk.max;have hnn:=hrk.nn;have hl64:=hrk.len;have HAK:=kp hrk.amt;obtain⟨A,c,l,hv0,hi,hl,hn⟩:=h.now.ins;have HV0:=kp hv0;have HKL:=kp (fun k (hk:k∈hereI t n me)=>hereI_lt hk);have hk16:=hereI_len t n me;have HIE:=kp (fun he=>inputs_err (X:=X) (Y:=Y) (t:=t) (n:=n) (me:=me) he);have HIO:=kp (fun he=>inputs_ok' (X:=X) (Y:=Y) (t:=t) (n:=n) (me:=me) he);have HTL:=kp (fun hck=>tid_len (t:=t) hck);obtain⟨LR,hLR⟩:=xe (lockR X Y t n me)
 have HLR:=kp (show LR=if(inputsR X Y t n me).2≠0 then((X,Y),0,(inputsR X Y t n me).2) else if 64 < Y.length+(hereI t n me).length then((X,Y),0,18)
  else if 4611686018427387904 - amtK Y < (inputsR X Y t n me).1 then((X,Y),0,6) else(locksR (tidB t) t.ins (hereI t n me) X Y,(inputsR X Y t n me).1,0) from hLR)
 rw[HLX.o,HAK.o]at HLR;rw[← hLR];obtain⟨ks,hks⟩:=xe (hereI t n me);obtain⟨ko,hko⟩:=xe (hereO t n me);rw[← hks]at HKL HAT hk16 HLR;rw[← hko]at HAT;obtain⟨R,hR⟩:=xe (inputsR X Y t n me);rw[← hR]at HIP HIE HIO HLR;obtain⟨tid,htid⟩:=xe (tidB t);rw[← htid]at HZ HID HLR HTL;obtain⟨zs,hzs⟩:=xe (tid.map B);have HZS:=kp hzs;rw[← hzs]at HZ HID;obtain⟨w_,hw⟩:=xe w;have HB:=kq (Below w.heap.size w w_) (by rw[hw];exact Below.refl _ _)
 suffices H:Calls Tryz.prog 17 #[.agg tv.toArray,.int .i64 n,.int .i64 me,.pointer (some ⟨g,0,none⟩),.pointer (some ⟨g2,0,none⟩)] w_ (fun e w'=>e=.returned (.tuple #[.int .u64 LR.2.1,.int .i64 LR.2.2])∧(∃L' s',CoinsAt w' g b L' s'∧RelC LR.1.1 L' s')∧(∃K' s',LocksAt w' g2 b2 K' s'∧RelK LR.1.2 K' s')∧Touched [g,b,g2,b2] w w') by rw[hw]at H;exact H
 clear hw h hc hrc hk hrk ht hv0 hi hl hR hks hko hLR htid hzs hne;have HNO:=kp (fun w' (k:Grow w w') (er:Int) (hm:LR=((X,Y),0,er))=>show(∃L' s',CoinsAt w' g b L' s'∧RelC LR.1.1 L' s')∧(∃K' s',LocksAt w' g2 b2 K' s'∧RelK LR.1.2 K' s')∧Touched [g,b,g2,b2] w w' from⟨⟨L,s,HCN.o.call k,by rw[hm];exact HRC.o⟩,⟨K,s2,HKN.o.call k,by rw[hm];exact HRK.o⟩,Touched.of_below k⟩)
 go_enter Tryz.func17,Tryz.ntmps17
 go_wp2_with (with_reducible first|refine wpl_box (o:=⟨some 5,_,_,_,_,_⟩) rfl rfl rfl ?_);intro v_ b_ y_ s_;have HX_:=kp (at_mk b_ HTC.o.len);clear b_ s_;have HG_:=kp HB.o.size;replace HB:=kp (HB.o.grow' y_);generalize x_:w_.heap.size=g1 at HX_ HG_ ⊢;clear x_;have HX_g:=HG_;clear HG_;have HX:=HX_;clear y_ HX_;try clear w_
 rename World=>w_;go_wp2_with (with_reducible refine wlb 22 row_tx HX.o.blk HX.o.len ?_);refine(HIP.o _ HB.o).mono ?_;rintro e w_ ⟨rfl,y_⟩;replace HB:=kp (HB.o.grow' y_);replace HX:=kp (HX.o.grow y_);clear y_;obtain⟨ra,rb⟩:=R;by_cases hr:rb=0
 case neg =>
  have z1:(rb != 0)=true:=by simpa using hr
  have HE:=kq (LR=((X,Y),0,rb)) (by rw[HLR.o,if_pos hr]);go_wp2_with fail
  go_ret2
  exact⟨by rw[HE.o];rfl,HNO.o _ HB.o _ HE.o⟩
 case pos =>
  have HLR1:=kq (LR=if 64 < K.length+ks.length then((X,Y),0,18) else if 4611686018427387904 - s2 < ra then((X,Y),0,6) else(locksR tid t.ins ks X Y,ra,0)) (by rw[HLR.o,if_neg (fun h=>h hr)]);have HIO1:=kp (HIO.o hr);have HTL1:=kp (HTL.o HIO1.o.1);subst hr;have z1:((0:Int) != 0)=false:=by decide
  clear HLR HIE HIO HTL;go_wp2_with (with_reducible refine wlb 34 row_tx HX.o.blk HX.o.len ?_);refine(HAT.o _ HB.o).mono ?_;rintro e v_ ⟨A3,c3,A4,c4,rfl,ha,_,y_⟩;have HK:=kp (ha.less HB.o.size);replace HX:=kp (HX.o.grow y_);replace HB:=kp (HB.o.grow' y_);clear ha y_;try clear w_
  rename World=>w_;go_wp2_with fail;refine(klen_any g2 b2 K s2 w_ (HKN.o.call HB.o)).mono ?_;rintro e w9_ ⟨rfl,rfl⟩;by_cases h18:64 < K.length+ks.length
  case pos =>
   have HE:=kq (LR=((X,Y),0,18)) (by rw[HLR1.o,if_pos h18]);have h18i:(64:Int) < (K.length:Int)+(ks.length:Int):=by omega
   go_wp2_with fail
   go_ret2
   exact⟨by rw[HE.o];rfl,HNO.o _ HB.o _ HE.o⟩
  case neg =>
   have HLR2:=kq (LR=if 4611686018427387904 - s2 < ra then((X,Y),0,6) else(locksR tid t.ins ks X Y,ra,0)) (by rw[HLR1.o,if_neg h18]);have h18i:¬ ((64:Int) < (K.length:Int)+(ks.length:Int)):=by omega
   have q1:IntKind.u64.wrap (4611686018427387904 - s2)=4611686018427387904 - s2:=by rw[IntKind.wrap_u64];omega
   clear HLR1;go_wp2_with fail;refine(ksum_any g2 b2 K s2 _ (HKN.o.call HB.o)).mono ?_;rintro e w9_ ⟨rfl,rfl⟩;by_cases h6:4611686018427387904 - s2 < ra
   case pos =>
    have HE:=kq (LR=((X,Y),0,6)) (by rw[HLR2.o,if_pos h6]);go_wp2_with fail
    go_ret2
    exact⟨by rw[HE.o];rfl,HNO.o _ HB.o _ HE.o⟩
   case neg =>
    have HE:=kq (LR=(locksR tid t.ins (ks.drop 0) X Y,ra,0)) (by rw[HLR2.o,if_neg h6,List.drop_zero]);clear HLR2;go_wp2_with (with_reducible refine wlb 51 row_tx HX.o.blk HX.o.len ?_);refine(HID.o _ HB.o).mono ?_;rintro e w_ ⟨rfl,y_⟩;replace HB:=kp (HB.o.grow' y_);replace HX:=kp (HX.o.grow y_);replace HK:=kp (HK.o.grow y_);clear y_;go_wp2_with (with_reducible first|refine wpl_alloc (o:=⟨some 16,_,_,_,_,_⟩) rfl rfl zero_id ?_);intro w1_ hb1_ hbw1_ hsz1_;have HB1_:=kp (at_mk hb1_ len_id);have HBW1_:=kp hbw1_;have HZ1_:=kp hsz1_;clear hb1_ hbw1_ hsz1_;go_wp2_with (with_reducible refine wsb row_id HB1_.o.blk HB1_.o.len HZ.o.len HZ.o.one ?_);intro v_ b_ g_ s_;have y_:=var_grow HBW1_.o HZ1_.o g_;have HX_:=kp (at_mk b_ HZ.o.len);clear b_ g_ s_ HB1_ HBW1_ HZ1_;replace HB:=kp (HB.o.grow' y_);replace HX:=kp (HX.o.grow y_);replace HK:=kp (HK.o.grow y_);generalize x_:w_.heap.size=gI at HX_ ⊢;clear x_;have HI:=HX_;clear y_ HX_;clear w1_;try clear w_
    rename World=>w_;obtain⟨RF,hRF⟩:=xe (locksR tid t.ins (ks.drop 0) X Y);rw[← hRF]at HE;have HI0:=kq (At w_ g1 27 4 tv∧At w_ gI 46 32 zs∧NatsAt w_ w.heap.size A3 ks∧CoinsAt w_ g b L s∧RelC X L s∧LocksAt w_ g2 b2 K s2∧RelK Y K s2∧Touched [g,b,g2,b2] w w_∧locksR tid t.ins (ks.drop 0) X Y=RF) ⟨HX.o,HI.o,HK.o,HCN.o.call HB.o,HRC.o,HKN.o.call HB.o,HRK.o,Touched.of_below HB.o,hRF.symm⟩;clear HX HI HK HB HCN HRC HKN HRK HAT HIP HID hRF HNO;go_wp2_with fail;go_loopw [55] (fun iv wr=>∃(k:Nat),k≤ks.length∧iv=.int .i64 k∧Hid (∃Z M s V N s2,At wr g1 27 4 tv∧At wr gI 46 32 zs∧NatsAt wr w.heap.size A3 ks∧CoinsAt wr g b M s∧RelC Z M s∧LocksAt wr g2 b2 N s2∧RelK V N s2∧Touched [g,b,g2,b2] w wr∧locksR tid t.ins (ks.drop k) Z V=RF)) (fun iv _=>ks.length - (intOf iv).toNat)
    case atStart=>exact⟨0,Nat.zero_le _,rfl,kp ⟨X,L,s,Y,K,s2,HI0.o⟩⟩
    case round =>
     obtain⟨k,hk,rfl,hI⟩:=hrel;clear HI0;obtain⟨Z,M,s,V,N,s2,hx_,hi_,hn_,hm_,hr_,hv_,hrv_,ht_,hf_⟩:=hI.o;have HX:=kp hx_;have HI:=kp hi_;have HK:=kp hn_;have HM:=kp hm_;have HR:=kp hr_;have HN:=kp hv_;have HRV:=kp hrv_;have HTO:=kp ht_;have HF:=kp hf_;clear hI hx_ hi_ hn_ hm_ hr_ hv_ hrv_ ht_ hf_;rename World=>w_;by_cases hlt:k < ks.length
     ·obtain⟨b5,o5,j,rfl,hj,c5⟩:=HK.o.at_ hlt;have hjl:=HKL.o j (List.mem_of_getElem? hj);obtain⟨l2,hii,hl2⟩:=(HTX.o _ HTO.o).insAt HV0.o;obtain⟨bi,oi,p,rfl,hp,hok,hcc⟩:=hii.at_ hjl
      have hbi:bi < w_.heap.size:=by
       have h33:=hcc 32 _ (in_at (v:=p.1) hok.2).1;exact World.block_lt_of_cell? w_ _ h33
      have hp2:t.ins[j]? = some p.2:=by rw[← hl2,List.getElem?_map,hp];rfl
      have HST:=kq (locksR tid t.ins (ks.drop (k+1)) (cutC Z p.2.pt) (rputK V p.2.pt ((lookC Z p.2.pt).getD noCoin,tid)).1=RF) (by rw[← HF.o];exact(locksR_step hj hp2).symm);have HPO:=kp (in_ok hok.2);have HPC:=kp (ptV_cl HPO.o);have HMP:=kq (∀i u,(ptV p.2.pt)[i]? = some u→w_.cell? ⟨bi,oi+j*35+i,none⟩=some u) (fun i u hu=>hcc i u (in_pt p.1 p.2 hu))
      have HTK:=kp (show Calls Tryz.prog 39 #[.pointer (some ⟨g,0,none⟩),ptA p.2.pt] w_ fun e w'=>e=.returned (.tuple #[coinA ((lookC Z p.2.pt).getD noCoin),.bool (lookC Z p.2.pt).isSome])∧Touched [g,b] w_ w'∧CoinsAt w' g b (dropC M p.2.pt) (s - ((lookC M p.2.pt).getD noCoin).2) by
       rw[HR.o.look];exact take_any g b M s p.2.pt w_ HM.o HPO.o (by have:=HR.o.max;omega) (HR.o.amtp p.2.pt).2)
      have HR2:=kp (HR.o.take p.2.pt);have HCO:=kp (HR.o.coinOK p.2.pt);have HCC:=kp (coinV_cl HCO.o);have HLK:=kq (LockOK ((lookC Z p.2.pt).getD noCoin,tid)) ⟨HCO.o,HTL1.o⟩;have HKP:=kp (fun w' (h':LocksAt w' g2 b2 N s2)=>kput_any g2 b2 N s2 p.2.pt tid ((lookC Z p.2.pt).getD noCoin) w' h' HPO.o HTL1.o HCO.o HRV.o.nn HRV.o.max);rw[← HZS.o]at HKP;have HAF:=kp (fun w' h1 h2=>putK_after (w:=w') (g:=g2) (b:=b2) HRV.o HPO.o HLK.o h1 h2);unfold ptA at HTK HKP;unfold coinA at HTK HKP;obtain⟨es,hes⟩:=xe (ptV p.2.pt);rw[← hes]at HPC HMP HTK HKP;obtain⟨pp,hpp⟩:=xe p.2.pt;rw[← hpp]at HST HTK HR2 HCC HKP HAF;obtain⟨co,hco⟩:=xe ((lookC Z pp).getD noCoin);rw[← hco]at HST HTK HCC HKP HAF;obtain⟨cv,hcv⟩:=xe (coinV co);rw[← hcv]at HTK HCC HKP;generalize (lookC Z pp).isSome=lk at HTK;have HBI:=kp hbi
      have HNI:=kp (show bi∉[g,b] from fun hm=>by
       have h33:=HMP.o 32 _ (by rw[hes];exact ptV_ix HPO.o.1);have h34:=HMP.o 0 _ (by rw[hes];exact ptV_at HPO.o.1 (k:=0) (by omega));simp only [List.mem_cons,List.not_mem_nil,or_false]at hm;rcases hm with rfl|rfl
       ·have h5:=HM.o.blk.cell (oi+j*35+32);rw[h33]at h5;have:([Value.map (some b),Value.int .u64 s])[oi+j*35+32]? = none:=List.getElem?_eq_none (by simp);rw[this]at h5;cases h5
       ·obtain⟨es',clock,h6,_⟩:=HM.o.map;obtain⟨o,h7,h8⟩:=cells_of_cell h33
        rw[h6]at h7;cases h7;cases h8)
      have c0:=HX.o.blk.at_ HV0.o;have q2:((j:Int) < (t.ins.length:Int)):=by omega
      clear hj hp hok hcc hp2 hii hl2 HF HPO HR HCO HLK hes hpp hco hcv hbi;go_wp2_with (with_reducible refine wlm 66 row_point HMP.o HPC.o.len ?_);refine HTK.o.mono ?_;rintro e v_ ⟨rfl,ht_,hm_⟩;have HM2:=kp hm_;have HNX:=kp (HX.o.ne_coins HM.o (by decide));have HNJ:=kp (HI.o.ne_coins HM.o (by decide));replace HK:=kp (HK.o.touchC HM.o ht_);replace HMP:=kq (∀i u,es[i]? = some u→v_.cell? ⟨bi,oi+j*35+i,none⟩=some u) (fun i u hu=>(World.cell?_of_block (w:=w_) (ht_.block bi HBI.o HNI.o)).trans (HMP.o i u hu));replace HBI:=kq (bi < v_.heap.size) (Nat.lt_of_lt_of_le HBI.o ht_.size);replace HX:=kp (HX.o.touchd ht_ HNX.o);replace HI:=kp (HI.o.touchd ht_ HNJ.o);replace HN:=kp (HN.o.touchd ht_ HNE.o.1 HNE.o.2.1);replace HTO:=kp (HTO.o.trans (ht_.wide (fun x hx=>by simp only [List.mem_cons,List.not_mem_nil,or_false]at hx ⊢;rcases hx with rfl|rfl <;> simp)));clear ht_ hm_ HTK c0 c5 HM HNX HNJ HNI;try clear w_
      rename World=>w_;obtain⟨wq,hwq⟩:=xe w_;have HB:=kq (Below wq.heap.size wq w_) (by rw[hwq];exact Below.refl _ _);replace HMP:=kq (∀w',Below wq.heap.size wq w'→∀i u,es[i]? = some u→w'.cell? ⟨bi,oi+j*35+i,none⟩=some u) (fun w' hb i u hu=>bcell hb (by rw[hwq];exact HMP.o i u hu));replace HBI:=kq (bi < wq.heap.size) (by rw[hwq];exact HBI.o);clear hwq;go_wp2_with (with_reducible first|refine wpl_alloc (o:=⟨some 19,_,_,_,_,_⟩) rfl rfl zero_coin ?_);intro w1_ hb1_ hbw1_ hsz1_;have HB1_:=kp (at_mk hb1_ len_coin);have HBW1_:=kp hbw1_;have HZ1_:=kp hsz1_;clear hb1_ hbw1_ hsz1_;go_wp2_with (with_reducible refine wsb row_coin HB1_.o.blk HB1_.o.len HCC.o.len HCC.o.one ?_);intro v_ b_ g_ s_;have y_:=var_grow HBW1_.o HZ1_.o g_;have HX_:=kp (at_mk b_ HCC.o.len);clear b_ g_ s_ HB1_ HBW1_ HZ1_;replace HB:=kp (HB.o.grow' y_);replace HX:=kp (HX.o.grow y_);replace HI:=kp (HI.o.grow y_);replace HK:=kp (HK.o.grow y_);replace HN:=kp (HN.o.grow y_);replace HM2:=kp (HM2.o.grow y_);replace HTO:=kp (HTO.o.grow y_);generalize x_:w_.heap.size=gW at HX_ ⊢;clear x_;have HW:=HX_;clear y_ HX_;clear w1_;try clear w_
      rename World=>w_;go_wp2_with fail;try go_wp2_with fail
      repeat' (first|(with_reducible refine wpp (id:=14) Grow [0,0,2,0,0,0,2,2,2,3] (.get 0 (.get 1 (.get 2 (.get 3 (.get 4 (.get 5 (.get 6 (.get 7 (.get 8 (.act 9 .done)))))))))) Grow.refl Grow.trans ?_)|go_values|go_skip|go_guarded|go_step|go_upon|go_back)
      intro w_ hd_;have y_:=hd_.grow;replace HB:=kp (HB.o.grow' y_);replace HX:=kp (HX.o.grow y_);replace HI:=kp (HI.o.grow y_);replace HK:=kp (HK.o.grow y_);replace HN:=kp (HN.o.grow y_);replace HM2:=kp (HM2.o.grow y_);replace HTO:=kp (HTO.o.grow y_);replace HW:=kp (HW.o.grow y_);clear y_ hd_;have HMQ:=kp (HMP.o _ HB.o);have HBQ:=kp (Nat.lt_of_lt_of_le HBI.o HB.o.size);have c0:=HX.o.blk.at_ HV0.o;repeat (first|(refine plc (fun K hK=>?_);go_simp;refine hK _ _ ?_;clear hK K)|(refine pls (fun K hK=>?_);go_simp;refine hK _ _ ?_;clear hK K)|(refine psa (fun K hK=>?_);go_simp;refine hK _ _ ?_;clear hK K)|(refine pl_load rfl rfl (by first|exact wanted_none rfl|(go_simp;done)|rfl) rfl (by first|rfl|(go_simp;rfl)) (by kernel_rfl) (by first|exact c0) (fun K hK=>?_);go_simp;refine hK _ _ ?_;clear hK K)|(refine pl_loadnow rfl rfl (by first|exact wanted_none rfl|(go_simp;done)|rfl) rfl (by first|rfl|(go_simp;rfl)) (by kernel_rfl) (by first|exact c0) (fun K hK=>?_);go_simp;refine hK _ _ ?_;clear hK K))
      refine pl_loadm rfl (by decide) (by exact wanted_none rfl) rfl row_point HMQ.o HBQ.o (by first|rfl|(go_simp;done)|rfl) HPC.o.len (fun K hK=>?_);go_simp;refine hK _ _ ?_;clear hK K;repeat (first|(refine pl_loadb rfl rfl (by first|exact wanted_none rfl|(go_simp;done)|rfl) rfl row_id HI.o.blk (by first|rfl|(go_simp;done)|rfl) HI.o.len (fun K hK=>?_);go_simp;refine hK _ _ ?_;clear hK K)|(refine pl_loadbnow rfl rfl (by first|exact wanted_none rfl|(go_simp;done)|rfl) rfl row_id HI.o.blk (by first|rfl|(go_simp;done)|rfl) HI.o.len (fun K hK=>?_);go_simp;refine hK _ _ ?_;clear hK K)|(refine pl_loadb rfl rfl (by first|exact wanted_none rfl|(go_simp;done)|rfl) rfl row_coin HW.o.blk (by first|rfl|(go_simp;done)|rfl) HW.o.len (fun K hK=>?_);go_simp;refine hK _ _ ?_;clear hK K)|(refine pl_loadbnow rfl rfl (by first|exact wanted_none rfl|(go_simp;done)|rfl) rfl row_coin HW.o.blk (by first|rfl|(go_simp;done)|rfl) HW.o.len (fun K hK=>?_);go_simp;refine hK _ _ ?_;clear hK K)|(refine plc (fun K hK=>?_);go_simp;refine hK _ _ ?_;clear hK K)|(refine pls (fun K hK=>?_);go_simp;refine hK _ _ ?_;clear hK K)|(refine psa (fun K hK=>?_);go_simp;refine hK _ _ ?_;clear hK K))
      clear c0 HMQ HBQ HMP HBI;refine pl_act rfl (by first|exact wanted_none rfl|(go_simp;done)|rfl) (fun K hK=>?_);go_wp2_with fail;refine Calls.mono (show Calls Tryz.prog 34 _ w_ _ from HKP.o w_ HN.o) ?_;rintro e v_ ⟨rfl,ht_,h1_,h2_⟩;have HAF2:=kp (HAF.o v_ h1_ h2_);have HNX:=kp (HX.o.ne_locks HN.o (by decide));have HNJ:=kp (HI.o.ne_locks HN.o (by decide));replace HK:=kp (HK.o.touchK HN.o ht_);replace HX:=kp (HX.o.touchd ht_ HNX.o);replace HI:=kp (HI.o.touchd ht_ HNJ.o);replace HM2:=kp (HM2.o.touchd ht_ HNE.o.2.2.1 HNE.o.2.2.2);replace HTO:=kp (HTO.o.trans (ht_.wide (fun x hx=>by simp only [List.mem_cons,List.not_mem_nil,or_false]at hx ⊢;rcases hx with rfl|rfl <;> simp)));go_wp2_with fail;refine hK _ _ (fun h=>by cases h) ?_;clear hK K ht_ h1_ h2_ HNX HNJ HN HW HB HKP HAF;obtain⟨N',s'',hn_,hrn_⟩:=HAF2.o;have HNF:=kp hn_;have HRF:=kp hrn_;clear hn_ hrn_ HAF2;repeat ((first|refine plc (fun K hK=>?_)|refine pls (fun K hK=>?_)|refine psa (fun K hK=>?_));go_simp;refine hK _ _ ?_;clear hK K)
      refine pl_done ?_;go_wp2_with fail;go_roundw
      case rel=>exact⟨k+1,by omega,by go_num,kp ⟨_,_,_,_,_,_,HX.o,HI.o,HK.o,HM2.o,HR2.o,HNF.o,HRF.o,HTO.o,HST.o⟩⟩
      case measure=>simp [intOf];omega
     ·obtain rfl:k=ks.length:=by omega
      have HE2:=kq (RF=(Z,V)) (by rw[← HF.o,List.drop_length];rfl);go_wp2_with fail
      go_ret2
      exact⟨by rw[HE.o];rfl,⟨M,s,HM.o,by rw[HE.o,HE2.o];exact HR.o⟩,⟨N,s2,HN.o,by rw[HE.o,HE2.o];exact HRV.o⟩,HTO.o⟩
end Go.Proofs.YtnnjjbkdjkjnpaaGreatDoor

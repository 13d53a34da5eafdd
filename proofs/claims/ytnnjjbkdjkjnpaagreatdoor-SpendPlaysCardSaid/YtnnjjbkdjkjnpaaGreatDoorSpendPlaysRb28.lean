/- The contracts of spend.Free and spend.Pay. -/
import Derived.Test.YtnnjjbkdjkjnpaaGreatDoorSpendPlaysRb27
set_option linter.unusedSimpArgs false
set_option linter.unusedVariables false
set_option maxRecDepth 100000
set_option maxHeartbeats 16000000
namespace Go.Proofs.YtnnjjbkdjkjnpaaGreatDoor
open Go.RowKit Go.Shelf
theorem free_any {id : List UInt8} (hi : id.length = 32) {Y K : LocksL} {s2 : Int} {g2 b2 : Nat} (w : World) (hk : LocksAt w g2 b2 K s2) (hrk : RelK Y K s2) :
  Calls Tryz.prog 20 #[.agg (id.map B).toArray,.pointer (some ⟨g2,0,none⟩)] w fun e w'=>e=.returned (.int .u64 (freeR Y id))∧(∃K' s',LocksAt w' g2 b2 K' s'∧RelK (restK Y id) K' s')∧Touched [g2,b2] w w':=by
 have HIC:=kp (aidV_cl hi);have HK:=kp hk;have HR:=kp hrk;have HOF:=kp (fun w' (k:Grow w w')=>kof_pts hrk hi w' (hk.call k));have HFR:=kp (frees_of hrk id);have HLE:=kq ((ofK Y id).length≤64) (Nat.le_trans (ofK_len Y id) (by have:=hrk.len;have:=hrk.lenX;omega));have HGL:=kq (g2 < w.heap.size∧b2 < w.heap.size) ⟨hk.ltg,hk.ltb⟩;obtain⟨fr,hfr⟩:=xe (freeR Y id);obtain⟨rk,hrk2⟩:=xe (restK Y id);rw[← hfr]at HFR ⊢;rw[← hrk2]at HFR ⊢;obtain⟨ps,hps⟩:=xe (ofK Y id);rw[← hps]at HOF HFR HLE;have hps64:=HLE.o;obtain⟨xs,hxs⟩:=xe (id.map B);rw[← hxs]at HIC HOF ⊢;obtain⟨w_,hw⟩:=xe w;have HB:=kq (Below w.heap.size w w_) (by rw[hw];exact Below.refl _ _)
 suffices H:Calls Tryz.prog 20 #[.agg xs.toArray,.pointer (some ⟨g2,0,none⟩)] w_ (fun e w'=>e=.returned (.int .u64 fr)∧(∃K' s',LocksAt w' g2 b2 K' s'∧RelK rk K' s')∧Touched [g2,b2] w w') by rw[hw]at H;exact H
 clear hw hfr hrk2 hps hxs hk hrk hi
 go_enter Tryz.func20,Tryz.ntmps20
 go_wp2_with (with_reducible first|refine wpl_box (o:=⟨some 2,_,_,_,_,_⟩) rfl rfl rfl ?_);intro v_ b_ y_ s_;have HX_:=kp (at_mk b_ HIC.o.len);clear b_ s_;have HG_:=kp HB.o.size;replace HB:=kp (HB.o.grow' y_);generalize x_:w_.heap.size=g3 at HX_ HG_ ⊢;clear x_;have HX_g:=HG_;clear HG_;have HX:=HX_;clear y_ HX_;try clear w_
 rename World=>w_;go_wp2_with (with_reducible refine wlb 14 row_id HX.o.blk HX.o.len ?_);refine(HOF.o _ HB.o).mono ?_;rintro e v_ ⟨A3,c3,rfl,hp_,y_⟩;have HP:=kp (hp_.less HB.o.size);replace HB:=kp (HB.o.grow' y_);clear hp_ y_ HX;try clear w_
 rename World=>w_;have HI0:=kq (PtsAt w_ w.heap.size A3 ps∧LocksAt w_ g2 b2 K s2∧RelK Y K s2∧Touched [g2,b2] w w_∧freesR (ps.drop 0) Y 0=(rk,fr)) ⟨HP.o,HK.o.call HB.o,HR.o,Touched.of_below HB.o,HFR.o⟩;clear HP HB HK HR HFR HOF;go_wp2_with fail;go_loopw [5,17] (fun s5 iv wr=>∃(k:Nat) (sm:Int),k≤ps.length∧iv=.int .i64 k∧s5=.int .u64 sm∧Hid (∃Z M s,PtsAt wr w.heap.size A3 ps∧LocksAt wr g2 b2 M s∧RelK Z M s∧Touched [g2,b2] w wr∧freesR (ps.drop k) Z sm=(rk,fr))) (fun _ iv _=>ps.length - (intOf iv).toNat)
 case atStart=>exact⟨0,0,Nat.zero_le _,rfl,rfl,kp ⟨Y,K,s2,HI0.o⟩⟩
 case round =>
  obtain⟨k,sm,hk,rfl,rfl,hI⟩:=hrel;clear HI0;obtain⟨Z,M,s,hp_,hm_,hr_,ht_,hf_⟩:=hI.o;have HP:=kp hp_;have HM:=kp hm_;have HR:=kp hr_;have HTO:=kp ht_;have HF:=kp hf_;clear hI hp_ hm_ hr_ ht_ hf_;rename World=>w_;by_cases hlt:k < ps.length
  ·obtain⟨b5,o5,p,rfl,hb5,hp,hpo,hcc⟩:=HP.o.1.at_ hlt;have HC:=kp hcc;have HPC:=kp (ptV_cl hpo);have HST:=kq (freesR (ps.drop (k+1)) (cutK Z p) (w64 (sm+((lookL Z p).getD noLock).1.2))=(rk,fr)) (by rw[← freesR_step hp];exact HF.o)
   have HFC:=kp (fun w' (h':LocksAt w' g2 b2 M s)=>show Calls Tryz.prog 46 #[.pointer (some ⟨g2,0,none⟩),ptA p] w' fun e w''=>e=.returned (.tuple #[coinA ((lookL Z p).getD noLock).1,.bool (lookL Z p).isSome])∧Touched [g2,b2] w' w''∧LocksAt w'' g2 b2 (dropL M p) (s - ((lookL M p).getD noLock).1.2) by
    rw[HR.o.look];exact kfree_any g2 b2 M s p w' h' hpo (by have:=HR.o.max;omega) (HR.o.amtp p).2)
   have HR2:=kp (HR.o.take p);have HLO:=kp (HR.o.lockOK p);have HLC:=kp (coinV_cl HLO.o.1);have HLA:=kp (coin_amt HLO.o.1);unfold ptA at HFC;unfold coinA at HFC;obtain⟨lo,hlo⟩:=xe ((lookL Z p).getD noLock);rw[← hlo]at HST HFC HLC HLA;obtain⟨am,ham⟩:=xe lo.1.2;rw[← ham]at HST HLA;obtain⟨lv,hlv⟩:=xe (coinV lo.1);rw[← hlv]at HFC HLC HLA;obtain⟨es,hes⟩:=xe (ptV p);rw[← hes]at HC HPC HFC;obtain⟨lk,hlk⟩:=xe ((lookL Z p).isSome);rw[← hlk]at HFC;clear hb5 hp hpo hcc HR HF HLO hlo ham hlv hes hlk;have HB:=kp (Below.refl w_.heap.size w_);have HW1:=kq (w_.heap.size≥w.heap.size) HTO.o.size;obtain⟨wq,hwq⟩:=xe w_;replace HB:=kq (Below wq.heap.size wq w_) (by rw[hwq];exact Below.refl _ _);have HSZ:=kq (w.heap.size≤wq.heap.size) (by rw[hwq];exact HTO.o.size);clear hwq HW1;go_wp2_with (with_reducible first|refine wlm 20 row_point HC.o HPC.o.len ?_|refine wpl_alloc (o:=⟨some 7,_,_,_,_,_⟩) rfl rfl zero_point ?_);intro w1_ hb1_ hbw1_ hsz1_;have HB1_:=kp (at_mk hb1_ len_point);have HBW1_:=kp hbw1_;have HZ1_:=kp hsz1_;clear hb1_ hbw1_ hsz1_;go_wp2_with (with_reducible refine wsb row_point HB1_.o.blk HB1_.o.len HPC.o.len HPC.o.one ?_);intro v_ b_ g_ s_;have HG_:=kp HB.o.size;have y_:=var_grow HBW1_.o HZ1_.o g_;have HX_:=kp (at_mk b_ HPC.o.len);clear b_ g_ s_ HB1_ HBW1_ HZ1_;replace HB:=kp (HB.o.grow' y_);replace HP:=kp (HP.o.grow y_);replace HM:=kp (HM.o.grow y_);replace HTO:=kp (HTO.o.grow y_);generalize x_:w_.heap.size=gV at HX_ HG_ ⊢;clear x_;have HV:=HX_;clear y_ HX_;clear w1_;try clear w_
   rename World=>w_;have HV_g:=HG_;clear HG_;go_wp2_with (with_reducible refine wlb 23 row_point HV.o.blk HV.o.len ?_);refine(HFC.o w_ HM.o).mono ?_;rintro e v_ ⟨rfl,ht_,hm_⟩;have HM2:=kp hm_;replace HTO:=kp (HTO.o.trans ht_);have HTS:=kp ht_.size;replace HP:=kp (HP.o.touchd ht_ (fun x hx=>by have:=HGL.o;simp only [List.mem_cons,List.not_mem_nil,or_false]at hx;rcases hx with rfl|rfl <;> omega));clear ht_ hm_ HM HB HV HV_g HSZ HTS;clear wq;try clear w_
   rename World=>w_;obtain⟨wq,hwq⟩:=xe w_;have HB:=kq (Below wq.heap.size wq w_) (by rw[hwq];exact Below.refl _ _);clear hwq;go_wp2_with (with_reducible first|refine wpl_alloc (o:=⟨some 8,_,_,_,_,_⟩) rfl rfl zero_coin ?_);intro w1_ hb1_ hbw1_ hsz1_;have HB1_:=kp (at_mk hb1_ len_coin);have HBW1_:=kp hbw1_;have HZ1_:=kp hsz1_;clear hb1_ hbw1_ hsz1_;go_wp2_with (with_reducible refine wsb row_coin HB1_.o.blk HB1_.o.len HLC.o.len HLC.o.one ?_);intro v_ b_ g_ s_;have y_:=var_grow HBW1_.o HZ1_.o g_;have HX_:=kp (at_mk b_ HLC.o.len);clear b_ g_ s_ HB1_ HBW1_ HZ1_;replace HB:=kp (HB.o.grow' y_);replace HP:=kp (HP.o.grow y_);replace HM2:=kp (HM2.o.grow y_);replace HTO:=kp (HTO.o.grow y_);generalize x_:w_.heap.size=gW at HX_ ⊢;clear x_;have HW:=HX_;clear y_ HX_;clear w1_;try clear w_
   rename World=>w_;have c1:=HW.o.blk.at_ HLA.o;go_wp2_with fail;go_roundw
   case rel=>exact⟨k+1,w64 (sm+am),by omega,by go_num,rfl,kp ⟨_,_,_,HP.o,HM2.o,HR2.o,HTO.o,HST.o⟩⟩
   case measure=>simp [intOf];omega
  ·obtain rfl:k=ps.length:=by omega
   have HE:=kq ((Z,sm)=(rk,fr)) (by rw[← HF.o,List.drop_length];rfl);obtain⟨rfl,rfl⟩:Z=rk∧sm=fr:=by have:=HE.o;injection this with a b;exact⟨a,b⟩
   go_wp2_with fail;go_ret
   exact⟨rfl,⟨_,_,HM.o,HR.o⟩,HTO.o⟩
def TxKeep(w:World)(bs:List Nat)(tv:List Value)(t:Txn):Prop:=∀w',Touched bs w w'→TxAt w' tv t
theorem TxKeep.now{w:World}{bs:List Nat}{tv:List Value}{t:Txn}(h:TxKeep w bs tv t):TxAt w tv t:=h w (Touched.refl _ _)
theorem TxKeep.of{w0 w:World}{bs:List Nat}{tv:List Value}{t:Txn}(h:TxAt w0 tv t)(h0:Below w0.heap.size w0 w)(hb:∀x∈bs,w0.heap.size≤x):TxKeep w bs tv t:=fun w' ht=>h.grow (below_touch h0 ht hb)
theorem TxAt.insAt{w:World}{tv:List Value}{t:Txn}(h:TxAt w tv t){A:Option Addr}{n c:Nat}(hv:tv[0]? = some (.slice A n c)):∃l:List (Value×Inp),InsAt w A n c l∧l.map Prod.snd=t.ins:=by
 obtain⟨A',c',l,h1,h2,h3,_⟩:=h.ins;rw[hv]at h1;injection h1 with h1
 injection h1 with e1 e2 e3
 subst e1;subst e3;rw[← e2]at h2;exact⟨l,h2,h3⟩
theorem pay_any {tv : List Value} {t : Txn} (n me : Int) {X L : CoinsL} {Y K : LocksL} {s s2 : Int} {g b g2 b2 : Nat} (w : World) (h : TxKeep w [g, b] tv t) (ht : Tabs w) (hc : CoinsAt w g b L s) (hrc : RelC X L s) (hk : LocksAt w g2 b2 K s2) (hrk : RelK Y K s2) :
  Calls Tryz.prog 12 #[.agg tv.toArray,.int .i64 n,.int .i64 me,.pointer (some ⟨g,0,none⟩),.pointer (some ⟨g2,0,none⟩)] w fun e w'=>e=.returned (.tuple #[.int .u64 (inputsR X Y t n me).1,.int .i64 (inputsR X Y t n me).2])∧(∃L' s',CoinsAt w' g b L' s'∧RelC (payX X Y t n me) L' s')∧Touched [g,b] w w':=by
 have HTC:=kp h.now.cl;have HIP:=kp (fun w' (k:Grow w w')=>inputs_any n me w' (h.now.grow k) (hc.call k) hrc (hk.call k) hrk (ht.grow k));have HAT:=kp (fun w' (k:Grow w w')=>at_any n me w' (h.now.grow k) (ht.grow k));have HGL:=kq (g < w.heap.size∧b < w.heap.size) ⟨hc.ltg,hc.ltb⟩;have HCN:=kp hc;have HRC:=kp hrc;have HTX:=kp h;obtain⟨A,c,l,hv0,hi,hl,hn⟩:=h.now.ins;have HV0:=kp hv0;have HKL:=kp (fun k (hk:k∈hereI t n me)=>hereI_lt hk);have hk16:=hereI_len t n me;have HER:=kp (fun he=>inputs_err (X:=X) (Y:=Y) (t:=t) (n:=n) (me:=me) he);have HPX:=kq (payX X Y t n me=if(inputsR X Y t n me).2≠0 then X else cutsC X (ptsOf t.ins (hereI t n me))) rfl;obtain⟨ks,hks⟩:=xe (hereI t n me);obtain⟨ko,hko⟩:=xe (hereO t n me);rw[← hks]at HKL HAT hk16 HPX;rw[← hko]at HAT;obtain⟨XF,hXF⟩:=xe (payX X Y t n me);rw[← hXF]at HPX ⊢;obtain⟨R,hR⟩:=xe (inputsR X Y t n me);rw[← hR]at HIP HER HPX ⊢;obtain⟨w_,hw⟩:=xe w;have HB:=kq (Below w.heap.size w w_) (by rw[hw];exact Below.refl _ _)
 suffices H:Calls Tryz.prog 12 #[.agg tv.toArray,.int .i64 n,.int .i64 me,.pointer (some ⟨g,0,none⟩),.pointer (some ⟨g2,0,none⟩)] w_ (fun e w'=>e=.returned (.tuple #[.int .u64 R.1,.int .i64 R.2])∧(∃L' s',CoinsAt w' g b L' s'∧RelC XF L' s')∧Touched [g,b] w w') by rw[hw]at H;exact H
 clear hw h hc hrc hk hrk ht hv0 hi hl hR hks hko hXF
 go_enter Tryz.func12,Tryz.ntmps12
 go_wp2_with (with_reducible first|refine wpl_box (o:=⟨some 5,_,_,_,_,_⟩) rfl rfl rfl ?_);intro v_ b_ y_ s_;have HX_:=kp (at_mk b_ HTC.o.len);clear b_ s_;have HG_:=kp HB.o.size;replace HB:=kp (HB.o.grow' y_);generalize x_:w_.heap.size=g1 at HX_ HG_ ⊢;clear x_;have HX_g:=HG_;clear HG_;have HX:=HX_;clear y_ HX_;try clear w_
 rename World=>w_;go_wp2_with (with_reducible refine wlb 19 row_tx HX.o.blk HX.o.len ?_);refine(HIP.o _ HB.o).mono ?_;rintro e w_ ⟨rfl,y_⟩;replace HB:=kp (HB.o.grow' y_);replace HX:=kp (HX.o.grow y_);clear y_;by_cases hr:R.2=0
 case neg =>
  have z1:(R.2 != 0)=true:=by simpa using hr
  have HE:=kq (XF=X) (by rw[HPX.o,if_pos hr]);have HE1:=kp (HER.o hr);go_wp2_with fail
  go_ret2
  exact⟨by rw[HE1.o];rfl,⟨L,s,HCN.o.call HB.o,by rw[HE.o];exact HRC.o⟩,Touched.of_below HB.o⟩
 case pos =>
  have HE:=kq (cutsC X (ptsOf t.ins (ks.drop 0))=XF) (by rw[HPX.o,if_neg (fun h=>h hr),List.drop_zero]);have HR2:=kp hr;rw[hr];have z1:((0:Int) != 0)=false:=by decide
  clear HPX HER hr;go_wp2_with (with_reducible refine wlb 31 row_tx HX.o.blk HX.o.len ?_);refine(HAT.o _ HB.o).mono ?_;rintro e v_ ⟨A3,c3,A4,c4,rfl,ha,_,y_⟩;have HK:=kp (ha.less HB.o.size);replace HX:=kp (HX.o.grow y_);replace HB:=kp (HB.o.grow' y_);clear ha y_;try clear w_
  rename World=>w_;have HI0:=kq (At w_ g1 27 4 tv∧NatsAt w_ w.heap.size A3 ks∧CoinsAt w_ g b L s∧RelC X L s∧Touched [g,b] w w_∧cutsC X (ptsOf t.ins (ks.drop 0))=XF) ⟨HX.o,HK.o,HCN.o.call HB.o,HRC.o,Touched.of_below HB.o,HE.o⟩;clear HX HK HB HE HCN HRC HAT HIP;go_wp2_with fail;go_loopw [39] (fun iv wr=>∃(k:Nat),k≤ks.length∧iv=.int .i64 k∧Hid (∃Z M s,At wr g1 27 4 tv∧NatsAt wr w.heap.size A3 ks∧CoinsAt wr g b M s∧RelC Z M s∧Touched [g,b] w wr∧cutsC Z (ptsOf t.ins (ks.drop k))=XF)) (fun iv _=>ks.length - (intOf iv).toNat)
  case atStart=>exact⟨0,Nat.zero_le _,rfl,kp ⟨X,L,s,HI0.o⟩⟩
  case round =>
   obtain⟨k,hk,rfl,hI⟩:=hrel;clear HI0;obtain⟨Z,M,s,hx_,hn_,hm_,hr_,ht_,hf_⟩:=hI.o;have HX:=kp hx_;have HK:=kp hn_;have HM:=kp hm_;have HR:=kp hr_;have HTO:=kp ht_;have HF:=kp hf_;clear hI hx_ hn_ hm_ hr_ ht_ hf_;rename World=>w_;by_cases hlt:k < ks.length
   ·obtain⟨b5,o5,j,rfl,hj,c5⟩:=HK.o.at_ hlt;have hjl:=HKL.o j (List.mem_of_getElem? hj);obtain⟨l2,hii,hl2⟩:=(HTX.o _ HTO.o).insAt HV0.o;obtain⟨bi,oi,p,rfl,hp,hok,hcc⟩:=hii.at_ hjl;have hp2:t.ins[j]? = some p.2:=by rw[← hl2,List.getElem?_map,hp];rfl
    have HST:=kq (cutsC (cutC Z p.2.pt) (ptsOf t.ins (ks.drop (k+1)))=XF) (by rw[← HF.o];exact(cutsC_step hj hp2).symm);have HPO:=kp (in_ok hok.2);have HPC:=kp (ptV_cl HPO.o);have HMP:=kq (∀i u,(ptV p.2.pt)[i]? = some u→w_.cell? ⟨bi,oi+j*35+i,none⟩=some u) (fun i u hu=>hcc i u (in_pt p.1 p.2 hu));have HTK:=kp (take_any g b M s p.2.pt w_ HM.o HPO.o (by have:=HR.o.max;omega) (HR.o.amtp p.2.pt).2);have HR2:=kp (HR.o.take p.2.pt);unfold ptA at HTK;obtain⟨es,hes⟩:=xe (ptV p.2.pt);rw[← hes]at HPC HMP HTK;obtain⟨pp,hpp⟩:=xe p.2.pt;rw[← hpp]at HST HTK HR2;generalize coinA ((lookC M pp).getD noCoin)=cv at HTK;generalize (lookC M pp).isSome=lk at HTK;have c0:=HX.o.blk.at_ HV0.o;have q1:((j:Int) < (t.ins.length:Int)):=by omega
    clear hj hp hok hcc hp2 hii hl2 HF HPO HR hes hpp;go_wp2_with (with_reducible refine wlm 49 row_point HMP.o HPC.o.len ?_);refine HTK.o.mono ?_;rintro e v_ ⟨rfl,ht_,hm_⟩;have HM2:=kp hm_;have hgl:=HGL.o;have HLT:=kq (∀x∈[g,b],x < w.heap.size) (fun x hx=>by simp only [List.mem_cons,List.not_mem_nil,or_false]at hx;rcases hx with rfl|rfl;exact hgl.1;exact hgl.2);replace HX:=kp (HX.o.touchd ht_ (fun hx=>by have:=HLT.o _ hx;have:=HX_g.o;omega));replace HK:=kp (HK.o.touch ht_ HLT.o);replace HTO:=kp (HTO.o.trans ht_);clear ht_ hm_ HTK HMP c0 c5 HM hgl;go_wp2_with fail;go_roundw
    case rel=>exact⟨k+1,by omega,by go_num,kp ⟨_,_,_,HX.o,HK.o,HM2.o,HR2.o,HTO.o,HST.o⟩⟩
    case measure=>simp [intOf];omega
   ·obtain rfl:k=ks.length:=by omega
    have HE:=kq (Z=XF) (by rw[← HF.o,List.drop_length];rfl);go_wp2_with fail
    go_ret2
    exact⟨by rw[HR2.o];rfl,⟨M,s,HM.o,by rw[← HE.o];exact HR.o⟩,HTO.o⟩
open Go.RowKit Go.Sort
def idx(x:Nat):List UInt8:=UInt8.ofNat x::List.replicate 31 0
theorem idx_len(x:Nat):(idx x).length=32:=by simp [idx]
theorem LocksAt.grown{w w':World}{g b:Nat}{L:LocksL}{s:Int}{row:Option Nat}(h:LocksAt w g b L s)(hg:w.grownBy w' row)(h1:some g≠row)(h2:some b≠row):LocksAt w' g b L s:=by
 obtain⟨q1,⟨e1,c1,q2,q3,q4⟩,q5,q6⟩:=h;exact⟨q1.grown hg h1,⟨e1,c1,(hg.block b (Array.getElem?_eq_some_iff.1 q2).1 h2).trans q2,q3,q4⟩,q5,q6⟩
end Go.Proofs.YtnnjjbkdjkjnpaaGreatDoor

/- The contracts of spend.input and spend.Inputs. -/
import Derived.Test.YtnnjjbkdjkjnpaaGreatDoorSpendPlaysRb25
set_option linter.unusedSimpArgs false
set_option linter.unusedVariables false
set_option maxRecDepth 100000
set_option maxHeartbeats 16000000
namespace Go.Proofs.YtnnjjbkdjkjnpaaGreatDoor
open Go.RowKit Go.Shelf
theorem inputE_eq(X:CoinsL)(Y:LocksL)(i:Inp):inputE X Y i=if(lookL Y i.pt).isSome=true then 14 else if(lookC X i.pt).isSome=false then 13 else if decide (((lookC X i.pt).getD noCoin).1=ownerB i.secret)=false then 10 else if((lookC X i.pt).getD noCoin).2≠i.amount then 15 else 0:=by
 unfold inputE;cases lookC X i.pt with
 | none=>simp
 | some c=>simp
theorem RelC.coinOK{X L:CoinsL}{s:Int}(h:RelC X L s)(p:PtK):CoinOK ((lookC X p).getD noCoin):=by
 cases hl:lookC X p with
 | none=>exact noCoin_ok
 | some x =>
  obtain⟨e,he,rfl⟩:=Option.map_eq_some_iff.1 (show(X.find? (fun e=>e.1 == p)).map (·.2)=some x from hl);exact(h.okX e (List.mem_of_find?_eq_some he)).2
theorem RelK.lockOK{X L:LocksL}{s:Int}(h:RelK X L s)(p:PtK):LockOK ((lookL X p).getD noLock):=by
 cases hl:lookL X p with
 | none=>exact noLock_ok
 | some x =>
  obtain⟨e,he,rfl⟩:=Option.map_eq_some_iff.1 (show(X.find? (fun e=>e.1 == p)).map (·.2)=some x from hl);exact(h.okX e (List.mem_of_find?_eq_some he)).2
theorem coin_own{c:CoinV}{j:Nat}{u:Value}(hu:(c.1.map B)[j]? = some u):(coinV c)[j]? = some u:=by
 unfold coinV;rw[List.getElem?_append_left (List.getElem?_eq_some_iff.1 hu).1];exact hu
theorem coin_amt{c:CoinV}(h:CoinOK c):(coinV c)[32]? = some (.int .u64 c.2):=by
 unfold coinV;rw[List.getElem?_append_right (by rw[List.length_map,h.1];exact Nat.le_refl _)];simp [h.1]
theorem input_any {v : Value} {i : Inp} {X L : CoinsL} {Y K : LocksL} {s s2 : Int} {g b g2 b2 : Nat} (w : World) (hi : InOK w w.heap.size (v, i)) (hsl : i.secret.length ≤ 100000) (hc : CoinsAt w g b L s) (hrc : RelC X L s) (hk : LocksAt w g2 b2 K s2) (hrk : RelK Y K s2) (ht : Tabs w) :
  Calls Tryz.prog 43 #[.agg (inV v i).toArray,.pointer (some ⟨g,0,none⟩),.pointer (some ⟨g2,0,none⟩)] w fun e w'=>e=.returned (.int .i64 (inputE X Y i))∧Grow w w':=by
 have HE:=kp (inputE_eq X Y i);have HPO:=kp (in_ok hi.2)
 have HCG:=kp (fun w' (k:Grow w w')=>show Calls Tryz.prog 77 #[.pointer (some ⟨g,0,none⟩),ptA i.pt] w' fun e w''=>e=.returned (.tuple #[coinA ((lookC X i.pt).getD noCoin),.bool (lookC X i.pt).isSome])∧Grow w' w'' by
  rw[hrc.look];exact get_any g b L s i.pt w' (hc.call k) HPO.o)
 have HKG:=kp (fun w' (k:Grow w w')=>show Calls Tryz.prog 44 #[.pointer (some ⟨g2,0,none⟩),ptA i.pt] w' fun e w''=>e=.returned (.tuple #[.agg (((lookL Y i.pt).getD noLock).2.map B).toArray,coinA ((lookL Y i.pt).getD noLock).1,.bool (lookL Y i.pt).isSome])∧Grow w' w'' by
  rw[hrk.look];exact kget_any g2 b2 K s2 i.pt w' (hk.call k) HPO.o)
 have HCO:=kp (hrc.coinOK i.pt);have HLO:=kp (hrk.lockOK i.pt);have HTT:=kp (fun w' (k:Grow w w')=>ht.grow k);obtain⟨⟨As,cs,hvs,hcs,hss⟩,hio⟩:=hi;have HSS:=kp (fun w' (k:Grow w w')=>Sl.grow hss k);have HCS:=kp hcs;simp only at hvs hcs hss;subst hvs;have HIN:=kp (in_at (v:=.slice As i.secret.length cs) hio);have HXC:=kq (Cl 35 (inV (.slice As i.secret.length cs) i)) (inV_cl (w:=w) (Bd:=w.heap.size) (p:=(.slice As i.secret.length cs,i)) ⟨⟨As,cs,rfl,hcs,hss⟩,hio⟩);have HPT:=kp (fun j u (hu:(ptV i.pt)[j]? = some u)=>in_pt (.slice As i.secret.length cs) i hu);have HPC:=kp (ptV_cl HPO.o);clear hc hrc hk hrk ht hcs hss hio;obtain⟨co,hco⟩:=xe ((lookC X i.pt).getD noCoin);obtain⟨lo,hlo⟩:=xe ((lookL Y i.pt).getD noLock);obtain⟨il,hil⟩:=xe ((lookC X i.pt).isSome);obtain⟨lk,hlk⟩:=xe ((lookL Y i.pt).isSome);obtain⟨res,hres⟩:=xe (inputE X Y i);rw[← hco]at HCO HE HCG;rw[← hlo]at HLO HKG;rw[← hil]at HE HCG;rw[← hlk]at HE HKG;rw[← hres]at HE ⊢;have HZC:=kp (coinV_cl HCO.o);have HLC:=kp (coinV_cl HLO.o.1);have HIC:=kq (Cl 32 (lo.2.map B)) ⟨by rw[List.length_map];exact HLO.o.2,all_bytes _⟩;have HZA:=kp (coin_amt HCO.o);have HZO:=kp (fun j u (hu:(co.1.map B)[j]? = some u)=>coin_own (c:=co) hu);have HOD:=kq (Dig (co.1.map B) co.1) ⟨rfl,HCO.o.1⟩;have HWD:=kq (Dig ((ownerB i.secret).map B) (ownerB i.secret)) ⟨rfl,sha_length _⟩;have HSM:=kp (fun w'=>same_any co.1 (ownerB i.secret) w' HCO.o.1 (sha_length _));unfold ptA at HCG HKG;unfold coinA at HCG HKG;obtain⟨sm,hsm⟩:=xe (decide (co.1=ownerB i.secret));rw[← hsm]at HE HSM;obtain⟨zs,hzs⟩:=xe ((ownerB i.secret).map B);rw[← hzs]at HWD HSM;obtain⟨ys,hys⟩:=xe (co.1.map B);rw[← hys]at HZO HSM HOD;obtain⟨cv,hcv⟩:=xe (coinV co);rw[← hcv]at HZO HZA HZC HCG;obtain⟨lv,hlv⟩:=xe (coinV lo.1);rw[← hlv]at HLC HKG;obtain⟨lw,hlw⟩:=xe (lo.2.map B);rw[← hlw]at HIC HKG;obtain⟨es,hes⟩:=xe (ptV i.pt);rw[← hes]at HPT HPC HCG HKG;obtain⟨xs,hxs⟩:=xe (inV (.slice As i.secret.length cs) i);rw[← hxs]at HPT HXC HIN ⊢;obtain⟨ca,hca⟩:=xe co.2;rw[← hca]at HZA HE;obtain⟨ia,hia⟩:=xe i.amount;rw[← hia]at HIN HE;obtain⟨w_,hw⟩:=xe w;have HB:=kq (Below w.heap.size w w_) (by rw[hw];exact Below.refl _ _)
 suffices H:Calls Tryz.prog 43 #[.agg xs.toArray,.pointer (some ⟨g,0,none⟩),.pointer (some ⟨g2,0,none⟩)] w_ (fun e w'=>e=.returned (.int .i64 res)∧Grow w w') by rw[hw]at H;exact H
 clear hw hco hlo hil hlk hres hsm hzs hys hcv hlv hlw hes hxs hca hia
 go_enter Tryz.func43,Tryz.ntmps43
 go_wp2_with (with_reducible first|refine wpl_box (o:=⟨some 3,_,_,_,_,_⟩) rfl rfl rfl ?_);intro v_ b_ y_ s_;have HX_:=kp (at_mk b_ HXC.o.len);clear b_ s_;have HG_:=kp HB.o.size;replace HB:=kp (HB.o.grow' y_);generalize x_:w_.heap.size=g3 at HX_ HG_ ⊢;clear x_;have HI_g:=HG_;clear HG_;have HI:=HX_;clear y_ HX_;try clear w_
 rename World=>w_;have HM_:=kq (∀j u,es[j]? = some u→w_.cell? ⟨g3,0+j,none⟩=some u) (fun j u hu=>by rw[Nat.zero_add];exact HI.o.blk.at_ (HPT.o j u hu));go_wp2_with (with_reducible refine wlm 15 row_point HM_.o HPC.o.len ?_);refine(HKG.o w_ HB.o).mono ?_;clear HM_;rintro e w_ ⟨rfl,y_⟩;replace HB:=kp (HB.o.grow' y_);replace HI:=kp (HI.o.grow y_);clear y_;go_wp2_with (with_reducible first|refine wpl_alloc (o:=⟨some 7,_,_,_,_,_⟩) rfl rfl zero_id ?_);intro v_ b_ y_ s_;have HX_:=kp (at_mk b_ len_id);clear b_ s_;have HG_:=kp HB.o.size;have H7_HI:=kp (Nat.ne_of_lt HI.o.lt);replace HB:=kp (HB.o.grow' y_);replace HI:=kp (HI.o.grow y_);generalize x_:w_.heap.size=g7 at HX_ HG_ H7_HI ⊢;clear x_;have H7_g:=HG_;clear HG_;have H7:=HX_;clear y_ HX_;try clear w_
 rename World=>w_;go_wp2_with (with_reducible first|refine wpl_alloc (o:=⟨some 8,_,_,_,_,_⟩) rfl rfl zero_coin ?_);intro v_ b_ y_ s_;have HX_:=kp (at_mk b_ len_coin);clear b_ s_;have HG_:=kp HB.o.size;have H8_HI:=kp (Nat.ne_of_lt HI.o.lt);have H8_H7:=kp (Nat.ne_of_lt H7.o.lt);replace HB:=kp (HB.o.grow' y_);replace HI:=kp (HI.o.grow y_);replace H7:=kp (H7.o.grow y_);generalize x_:w_.heap.size=g8 at HX_ HG_ H8_HI H8_H7 ⊢;clear x_;have H8_g:=HG_;clear HG_;have H8:=HX_;clear y_ HX_;try clear w_
 rename World=>w_;have HN7:=kp (H8_H7.o.symm);go_wp2_with (with_reducible refine wsb row_id H7.o.blk H7.o.len HIC.o.len HIC.o.one ?_);intro v_ b_ g_ s_;replace HB:=kp (put_below HB.o H7_g.o g_);replace H7:=kp (at_mk b_ HIC.o.len);replace HI:=kp (At.off HI.o g_ H7_HI.o);replace H8:=kp (At.off H8.o g_ HN7.o);clear b_ g_ s_;try clear w_
 rename World=>w_;go_wp2_with (with_reducible refine wsb row_coin H8.o.blk H8.o.len HLC.o.len HLC.o.one ?_);intro v_ b_ g_ s_;replace HB:=kp (put_below HB.o H8_g.o g_);replace H8:=kp (at_mk b_ HLC.o.len);replace HI:=kp (At.off HI.o g_ H8_HI.o);clear b_ g_ s_;try clear w_
 rename World=>w_;clear H8;cases lk with
 | true =>
  go_wp2_with fail;go_ret
  exact⟨by rw[HE.o];rfl,HB.o⟩
 | false =>
  have HM_:=kq (∀j u,es[j]? = some u→w_.cell? ⟨g3,0+j,none⟩=some u) (fun j u hu=>by rw[Nat.zero_add];exact HI.o.blk.at_ (HPT.o j u hu));go_wp2_with (with_reducible refine wlm 24 row_point HM_.o HPC.o.len ?_);refine(HCG.o w_ HB.o).mono ?_;clear HM_;rintro e w_ ⟨rfl,y_⟩;replace HB:=kp (HB.o.grow' y_);replace HI:=kp (HI.o.grow y_);clear y_;go_wp2_with (with_reducible first|refine wpl_alloc (o:=⟨some 10,_,_,_,_,_⟩) rfl rfl zero_coin ?_);intro w1_ hb1_ hbw1_ hsz1_;have HB1_:=kp (at_mk hb1_ len_coin);have HBW1_:=kp hbw1_;have HZ1_:=kp hsz1_;clear hb1_ hbw1_ hsz1_;go_wp2_with (with_reducible refine wsb row_coin HB1_.o.blk HB1_.o.len HZC.o.len HZC.o.one ?_);intro v_ b_ g_ s_;have y_:=var_grow HBW1_.o HZ1_.o g_;have HX_:=kp (at_mk b_ HZC.o.len);clear b_ g_ s_ HB1_ HBW1_ HZ1_;replace HB:=kp (HB.o.grow' y_);replace HI:=kp (HI.o.grow y_);generalize x_:w_.heap.size=gW at HX_ ⊢;clear x_;have HW:=HX_;clear y_ HX_;clear w1_;try clear w_
  rename World=>w_;cases il with
  | false =>
   go_wp2_with fail;go_ret
   exact⟨by rw[HE.o];rfl,HB.o⟩
  | true =>
   try go_wp2_with fail
   repeat' (first|(with_reducible refine wpp (id:=7) Grow [0,1,0,2,4,3,0,0] (.get 0 (.get 1 (.get 2 (.get 3 (.act 4 (.act 5 (.get 6 (.get 7 .done)))))))) Grow.refl Grow.trans ?_)|go_values|go_skip|go_guarded|go_step|go_upon|go_back)
   intro w_ hd_;have y_:=hd_.grow;replace HB:=kp (HB.o.grow' y_);replace HI:=kp (HI.o.grow y_);replace HW:=kp (HW.o.grow y_);clear y_ hd_;have HM1:=kq (∀j u,ys[j]? = some u→w_.cell? ⟨gW,0+j,none⟩=some u) (fun j u hu=>by rw[Nat.zero_add];exact HW.o.blk.at_ (HZO.o j u hu));have HGW:=kp HW.o.lt;have c34:=HI.o.blk.at_ HIN.o.2.2;repeat ((first|refine plc (fun K hK=>?_)|refine pls (fun K hK=>?_)|refine psa (fun K hK=>?_));go_simp;refine hK _ _ ?_;clear hK K)
   refine pl_loadm rfl (by decide) (by exact wanted_none rfl) rfl row_id HM1.o HGW.o (by first|rfl|(go_simp;done)|rfl) HOD.o.len (fun K hK=>?_);go_simp;refine hK _ _ ?_;clear hK K;repeat (first|(refine plc (fun K hK=>?_);go_simp;refine hK _ _ ?_;clear hK K)|(refine pls (fun K hK=>?_);go_simp;refine hK _ _ ?_;clear hK K)|(refine psa (fun K hK=>?_);go_simp;refine hK _ _ ?_;clear hK K)|(refine pl_load rfl rfl (by first|exact wanted_none rfl|(go_simp;done)|rfl) rfl (by first|rfl|(go_simp;rfl)) (by kernel_rfl) (by first|exact c34) (fun K hK=>?_);go_simp;refine hK _ _ ?_;clear hK K)|(refine pl_loadnow rfl rfl (by first|exact wanted_none rfl|(go_simp;done)|rfl) rfl (by first|rfl|(go_simp;rfl)) (by kernel_rfl) (by first|exact c34) (fun K hK=>?_);go_simp;refine hK _ _ ?_;clear hK K))
   clear c34 HM1 HGW;refine pl_act rfl (by first|exact wanted_none rfl|(go_simp;done)|rfl) (fun K hK=>?_);go_wp2_with fail;refine(towner_any HWD.o _ (HSS.o _ HB.o) HCS.o hsl (HTT.o _ HB.o)).mono ?_;rintro e w_ ⟨rfl,y_⟩;go_wp2_with fail;refine hK _ _ (fun _=>y_) ?_;clear hK K;replace HB:=kp (HB.o.grow' y_);replace HI:=kp (HI.o.grow y_);replace HW:=kp (HW.o.grow y_);clear y_;refine pl_act rfl (by first|exact wanted_none rfl|(go_simp;done)|rfl) (fun K hK=>?_);go_wp2_with fail;refine(HSM.o _).mono ?_;rintro e w_ ⟨rfl,y_⟩;go_wp2_with fail;refine hK _ _ (fun _=>y_) ?_;clear hK K;replace HB:=kp (HB.o.grow' y_);replace HI:=kp (HI.o.grow y_);replace HW:=kp (HW.o.grow y_);clear y_;repeat ((first|refine plc (fun K hK=>?_)|refine pls (fun K hK=>?_)|refine psa (fun K hK=>?_));go_simp;refine hK _ _ ?_;clear hK K)
   refine pl_done ?_;cases sm with
   | false =>
    go_wp2_with fail;go_ret
    exact⟨by rw[HE.o];rfl,HB.o⟩
   | true =>
    have c32:=HW.o.blk.at_ HZA.o;have c33:=HI.o.blk.at_ HIN.o.2.1;by_cases hne:ca=ia
    ·subst hne;have z1:(ca != ca)=false:=by simp
     go_wp2_with fail;go_ret
     exact⟨by rw[HE.o];simp,HB.o⟩
    ·have z1:(ca != ia)=true:=by simpa using hne
     go_wp2_with fail;go_ret
     exact⟨by rw[HE.o];simp [hne],HB.o⟩
theorem sumsR_err{X:CoinsL}{Y:LocksL}{ins:List Inp}:∀(ks:List Nat) (s:Int),(sumsR X Y ins ks s).2≠0→(sumsR X Y ins ks s).1=0
 |[],s,h=>absurd rfl h
 | k::r,s,h=>by
  unfold sumsR at h ⊢;split
  ·rfl
  ·rename_i i hi;simp only [hi]at h;split
   ·rfl
   ·rename_i hz;rw[if_neg hz]at h;exact sumsR_err r _ h
theorem inputs_err{X:CoinsL}{Y:LocksL}{t:Txn}{n me:Int}(h:(inputsR X Y t n me).2≠0):(inputsR X Y t n me).1=0:=by
 unfold inputsR at h ⊢;split
 ·rfl
 ·rename_i h1;rw[if_neg h1]at h;split
  ·rfl
  ·rename_i h2;rw[if_neg h2]at h;exact sumsR_err _ _ h
theorem inputs_any {tv : List Value} {t : Txn} (n me : Int) {X L : CoinsL} {Y K : LocksL} {s s2 : Int} {g b g2 b2 : Nat} (w : World) (h : TxAt w tv t) (hc : CoinsAt w g b L s) (hrc : RelC X L s) (hk : LocksAt w g2 b2 K s2) (hrk : RelK Y K s2) (ht : Tabs w) :
  Calls Tryz.prog 16 #[.agg tv.toArray,.int .i64 n,.int .i64 me,.pointer (some ⟨g,0,none⟩),.pointer (some ⟨g2,0,none⟩)] w fun e w'=>e=.returned (.tuple #[.int .u64 (inputsR X Y t n me).1,.int .i64 (inputsR X Y t n me).2])∧Grow w w':=by
 have HTC:=kp h.cl;have HCK:=kp (fun w' (k:Grow w w')=>(h.grow k).check);have HAT:=kp (fun w' (k:Grow w w')=>at_any n me w' (h.grow k) (ht.grow k));have HIP:=kp (fun w' (k:Grow w w') (v:Value) (i:Inp) (hi:InOK w' w'.heap.size (v,i)) (hsl:i.secret.length≤100000)=>input_any w' hi hsl (hc.call k) hrc (hk.call k) hrk (ht.grow k));obtain⟨A,c,l,hv0,hi,hl,hn⟩:=h.ins;have HI:=kp hi;have HL:=kp hl;have HV0:=kp hv0;obtain⟨R,hR⟩:=xe (inputsR X Y t n me);have HR:=kq (R=if checkT t≠0 then(0,checkT t) else if hereI t n me=[] then(0,11) else sumsR X Y t.ins (hereI t n me) 0) hR;rw[← hR];have HKL:=kp (fun k (hk:k∈hereI t n me)=>hereI_lt hk);have hk16:=hereI_len t n me;have HRT:=kp (fun hck=>right_of (t:=t) hck);obtain⟨ks,hks⟩:=xe (hereI t n me);obtain⟨ko,hko⟩:=xe (hereO t n me);rw[← hks]at HKL HR HAT hk16;rw[← hko]at HAT;obtain⟨w_,hw⟩:=xe w;have HB:=kq (Below w.heap.size w w_) (by rw[hw];exact Below.refl _ _)
 suffices H:Calls Tryz.prog 16 #[.agg tv.toArray,.int .i64 n,.int .i64 me,.pointer (some ⟨g,0,none⟩),.pointer (some ⟨g2,0,none⟩)] w_ (fun e w'=>e=.returned (.tuple #[.int .u64 R.1,.int .i64 R.2])∧Grow w w') by rw[hw]at H;exact H
 clear hw h hc hrc hk hrk ht hv0 hi hl hR hks hko
 go_enter Tryz.func16,Tryz.ntmps16
 go_wp2_with (with_reducible first|refine wpl_box (o:=⟨some 5,_,_,_,_,_⟩) rfl rfl rfl ?_);intro v_ b_ y_ s_;have HX_:=kp (at_mk b_ HTC.o.len);clear b_ s_;have HG_:=kp HB.o.size;replace HB:=kp (HB.o.grow' y_);generalize x_:w_.heap.size=g1 at HX_ HG_ ⊢;clear x_;have HX_g:=HG_;clear HG_;have HX:=HX_;clear y_ HX_;try clear w_
 rename World=>w_;go_wp2_with (with_reducible refine wlb 25 row_tx HX.o.blk HX.o.len ?_);refine(HCK.o _ HB.o).mono ?_;rintro e w_ ⟨rfl,y_⟩;replace HB:=kp (HB.o.grow' y_);replace HX:=kp (HX.o.grow y_);clear y_;by_cases hck:checkT t=0
 case neg =>
  have z1:(checkT t != 0)=true:=by simpa using hck
  have HE:=kq (R=(0,checkT t)) (by rw[HR.o,if_pos hck]);go_wp2_with fail
  go_ret2
  exact⟨by rw[HE.o];rfl,HB.o⟩
 case pos =>
  have HR1:=kq (R=if ks=[] then(0,11) else sumsR X Y t.ins ks 0) (by rw[HR.o,if_neg (fun h=>h hck)]);have HRR:=kp (HRT.o hck);rw[hck];have z1:((0:Int) != 0)=false:=by decide
  clear HR hck HRT;go_wp2_with (with_reducible refine wlb 31 row_tx HX.o.blk HX.o.len ?_);refine(HAT.o _ HB.o).mono ?_;rintro e v_ ⟨A3,c3,A4,c4,rfl,ha,_,y_⟩;have HK:=kp (ha.less HB.o.size);replace HX:=kp (HX.o.grow y_);replace HB:=kp (HB.o.grow' y_);clear ha y_;try clear w_
  rename World=>w_;by_cases hk0:ks=[]
  case pos =>
   have HE:=kq (R=(0,11)) (by rw[HR1.o,if_pos hk0]);have z2:((ks.length:Int) == 0)=true:=by rw[hk0];rfl
   go_wp2_with fail
   go_ret2
   exact⟨by rw[HE.o];rfl,HB.o⟩
  case neg =>
   have HR2:=kq (sumsR X Y t.ins ks 0=R) (by rw[HR1.o,if_neg hk0])
   have z2:((ks.length:Int) == 0)=false:=by
    have:ks.length≠0:=fun h=>hk0 (List.length_eq_zero_iff.1 h)
    simp;omega
   clear HR1 hk0;go_wp2_with fail;go_loopw [15,42] (fun s15 iv wr=>∃(k:Nat) (sm:Int),k≤ks.length∧iv=.int .i64 k∧s15=.int .u64 sm∧Hid (At wr g1 27 4 tv∧NatsAt wr w.heap.size A3 ks∧Below w.heap.size w wr∧sumsR X Y t.ins (ks.drop k) sm=R)) (fun _ iv _=>ks.length - (intOf iv).toNat)
   case atStart=>exact⟨0,0,Nat.zero_le _,rfl,rfl,kp ⟨HX.o,HK.o,HB.o,by rw[List.drop_zero];exact HR2.o⟩⟩
   case round =>
    obtain⟨k,sm,hk,rfl,rfl,hI⟩:=hrel;clear HX HK HB HR2;have HX:=kp hI.o.1;have HK:=kp hI.o.2.1;have HB:=kp hI.o.2.2.1;have HS:=kp hI.o.2.2.2;clear hI;rename World=>w_;by_cases hlt:k < ks.length
    ·obtain⟨b5,o5,j,rfl,hj,c5⟩:=HK.o.at_ hlt;have hjl:=HKL.o j (List.mem_of_getElem? hj);have HII:=kp (HI.o.grow HB.o);obtain⟨bi,oi,p,rfl,hp,hok,hcc⟩:=HII.o.at_ hjl;have hp2:t.ins[j]? = some p.2:=by rw[← HL.o,List.getElem?_map,hp];rfl
     have HST:=kq (R=if inputE X Y p.2≠0 then(0,inputE X Y p.2) else sumsR X Y t.ins (ks.drop (k+1)) (w64 (sm+p.2.amount))) (by rw[← HS.o];exact sumsR_step hj hp2);have HC:=kp hcc;have HPC:=kp (inV_cl hok);have HP33:=kp (in_at (v:=p.1) hok.2).2.1;have HIQ:=kp (HIP.o w_ HB.o p.1 p.2 hok (by have:=(HRR.o.2.2.2 p.2 (List.mem_of_getElem? hp2)).1;omega));obtain⟨pv,hpv⟩:=xe (inV p.1 p.2);rw[← hpv]at HC HPC HP33 HIQ;obtain⟨am,ham⟩:=xe p.2.amount;rw[← ham]at HP33 HST;obtain⟨er,her⟩:=xe (inputE X Y p.2);rw[← her]at HIQ HST;have HMC:=kp (fun w' (hb:Grow w_ w')=>show w'.cell? ⟨bi,oi+j*35+33,none⟩=some (.int .u64 am) from bcell hb (HC.o 33 _ HP33.o));have c0:=HX.o.blk.at_ HV0.o;have q1:((j:Int) < (t.ins.length:Int)):=by omega
     clear hj hp hok hcc hp2 hpv ham her HII HS;go_wp2_with (with_reducible refine wlm 50 row_tin HC.o HPC.o.len ?_);refine HIQ.o.mono ?_;rintro e v_ ⟨rfl,y_⟩;have c33:=HMC.o _ y_;replace HX:=kp (HX.o.grow y_);replace HK:=kp (HK.o.grow y_);replace HB:=kp (HB.o.grow' y_);clear y_ HIQ HC HMC c0 c5;try clear w_
     rename World=>w_;have c0:=HX.o.blk.at_ HV0.o;by_cases h0:er=0
     ·have HST2:=kq (sumsR X Y t.ins (ks.drop (k+1)) (w64 (sm+am))=R) (by rw[HST.o,if_neg (fun h=>h h0)]);subst h0;have z3:((0:Int) != 0)=false:=by decide
      clear HST;go_wp2_with fail;go_roundw
      case rel=>exact⟨k+1,w64 (sm+am),by omega,by go_num,rfl,kp ⟨HX.o,HK.o,HB.o,HST2.o⟩⟩
      case measure=>simp [intOf];omega
     ·have z3:(er != 0)=true:=by simpa using h0
      have HE:=kq (R=(0,er)) (by rw[HST.o,if_pos h0]);go_wp2_with fail
      go_ret2
      exact⟨by rw[HE.o];rfl,HB.o⟩
    ·obtain rfl:k=ks.length:=by omega
     have HE:=kq (R=(sm,0)) (by rw[← HS.o,List.drop_length];rfl);go_wp2_with fail
     go_ret2
     exact⟨by rw[HE.o];rfl,HB.o⟩
open Go.RowKit
theorem accR {w6 w w3 : World} {Z n m c c' : Nat} {A A' : Option Addr} {acc new : List UInt8} (hz : Grow w6 w) (hZ : Z = w6.heap.size) (ho : OwnAt w Z A n c (acc.map B)) (ho_ : w3.ownsRow Z 5 1 (.slice A' (n + m) c') (n + m) (acc.map B ++ new.map B)) (hg : w.grownBy w3 (A.map Addr.block)) :
  OwnAt w3 Z A' (n+m) c' ((acc++new).map B)∧Grow w6 w3:=by
 refine⟨by unfold OwnAt;rw[List.map_append];exact ho_,?_⟩;unfold Grow at hz ⊢;exact below_grown hz hg hz.size (fun g hg'=>by have:=own_from ho g hg';omega)
theorem natU{z:Int}(h:0≤z)(h2:z≤18446744073709551615):∃k:Nat,z=(k:Int)∧k≤18446744073709551615∧z.toNat=k:=⟨z.toNat,by omega,by omega,rfl⟩
theorem natI{z:Int}{m:Nat}(h:0≤z)(h2:z≤(m:Int)):∃k:Nat,z=(k:Int)∧k≤m∧z.toNat=k:=⟨z.toNat,by omega,by omega,rfl⟩
theorem fm_snocR{α:Type}(f:α→List UInt8){l:List α}{k:Nat}{p:α}(h:l[k]? = some p):(l.take (k+1)).flatMap f=(l.take k).flatMap f++f p:=by
 rw[List.take_add_one,h,List.flatMap_append];simp
def putAtK(e:PtK×LockV):List UInt8:=e.1.1++numB e.1.2.toNat++e.2.2++e.2.1.1++numB e.2.1.2.toNat
def bytesK(l:LocksL):List UInt8:=numB l.length++l.flatMap putAtK
theorem encAtK_id{e:PtK×LockV}(h:AtOKK e){j:Nat}{u:Value}(hu:(e.1.1.map B)[j]? = some u):(encAtK e)[0+j]? = some u:=
 encAtK_pt h (by unfold ptV;rw[List.getElem?_append_left (List.getElem?_eq_some_iff.1 hu).1];exact hu)
theorem encAtK_for{e:PtK×LockV}(h:AtOKK e){j:Nat}{u:Value}(hu:(e.2.2.map B)[j]? = some u):(encAtK e)[33+j]? = some u:=
 encAtK_ref h (by unfold refV;rw[List.getElem?_append_left (List.getElem?_eq_some_iff.1 hu).1];exact hu)
theorem encAtK_ow{e:PtK×LockV}(h:AtOKK e){j:Nat}{u:Value}(hu:(e.2.1.1.map B)[j]? = some u):(encAtK e)[65+j]? = some u:=by
 have h1:(e.2.2.map B).length=32:=by rw[List.length_map,h.2.2]
 have h2:=encAtK_ref h (j:=32+j) (u:=u) (by unfold refV;rw[List.getElem?_append_right (by omega),h1,show 32+j - 32=j by omega];unfold coinV;rw[List.getElem?_append_left (List.getElem?_eq_some_iff.1 hu).1];exact hu)
 rwa [← Nat.add_assoc]at h2
theorem rbytes21_any {A : Option Addr} {n c : Nat} {l : LocksL} (w : World) (h : RowK w A n l) (hn : n ≤ 64) (hx : IxOKK l) :
  Calls Tryz.prog 52 #[.slice A n c] w fun e w'=>∃A' c',e=.returned (.slice A' (bytesK l).length c')∧Sl w' w'.heap.size 1 A' (bytesK l).length ((bytesK l).map B)∧(bytesK l).length≤c'∧(bytesK l).length≤30000∧Grow w w':=by
 have HI6:=kp h;have HXL:=kp hx;have HIL2:=kp h.2.2;have HPT:=kq (bytesK l=numB n++l.flatMap putAtK) (by unfold bytesK;rw[h.2.2]);obtain⟨out,hout⟩:=xe (bytesK l);rw[← hout]at HPT ⊢;obtain⟨w_,hw⟩:=xe w
 suffices H:Calls Tryz.prog 52 #[.slice A n c] w_ fun e w'=>∃A' c',e=.returned (.slice A' out.length c')∧Sl w' w'.heap.size 1 A' out.length (out.map B)∧out.length≤c'∧out.length≤30000∧Grow w w' by rw[hw]at H;exact H
 have HG:=kq (Grow w w_) (by rw[hw];exact Grow.refl _);obtain⟨Z,hZ⟩:=xe w.heap.size;have HZ:=kp hZ;clear hw h hx hout hZ;obtain⟨mn,hmn⟩:=xe ((numB n).length);have lmn:mn≤9:=by rw[hmn];exact numB_le (by omega)
 have HRN:=kp (fun w=>rnum_any n w (by omega));rw[← hmn]at HRN;clear hmn
 go_enter Tryz.func52,Tryz.ntmps52
 have q1:=conv_u64' (n:=n) (by omega);go_wp2_with fail;refine(HRN.o _).mono ?_;rintro e v_ ⟨A7,c7,rfl,ho_,hc_,y_⟩;have HW:=kq (OwnAt v_ Z A7 mn c7 ((numB n).map B)) (own_base ho_ (by rw[HZ.o];exact HG.o.size));replace HG:=kp (HG.o.grow' y_);clear ho_ hc_ y_ q1;try clear w_
 rename World=>w_;have HK1:=kq (numB n=numB n++(l.take 0).flatMap putAtK) (by simp);go_wp2_with fail;go_loopw [3,4] (fun s3 iv wr=>∃k:Nat,∃A3 m c3 acc,k≤n∧iv=.int .i64 k∧s3=.slice A3 m c3∧m≤9+k*114∧Hid (OwnAt wr Z A3 m c3 (acc.map B)∧acc=numB n++(l.take k).flatMap putAtK∧Grow w wr)) (fun _ iv _=>n - (intOf iv).toNat)
 case atStart=>exact⟨0,A7,mn,c7,numB n,by omega,rfl,rfl,by omega,kp ⟨HW.o,HK1.o,HG.o⟩⟩
 case round =>
  obtain⟨k,A3,m,c3,acc,hk,rfl,rfl,hm,hI⟩:=hrel;clear HW HG HK1;have HW:=kp hI.o.1;have HAC:=kp hI.o.2.1;have HG:=kp hI.o.2.2;clear hI;rename World=>w_;by_cases hlt:k < n
  ·obtain⟨b,off,p,rfl,hbl,hp,hok,hc⟩:=HI6.o.at_ hlt;have HSN:=kp (fm_snocR putAtK hp);have hix:=HXL.o p (List.mem_of_getElem? hp);obtain⟨ix,hix1,hixl,hix2⟩:=natI (m:=15) hix.1 hix.2;obtain⟨am,ham,haml,ham2⟩:=natU hok.2.1.2.1 hok.2.1.2.2;obtain⟨tx,htx⟩:=xe p.1.1;obtain⟨fo,hfo⟩:=xe p.2.2;obtain⟨ow,how⟩:=xe p.2.1.1;have HPI:=kq (putAtK p=tx++numB ix++fo++ow++numB am) (by unfold putAtK;rw[hix2,ham2,← htx,← hfo,← how]);have HDT:=kq (Dig (tx.map B) tx) ⟨rfl,by rw[htx];exact hok.1.1⟩;have HDO:=kq (Dig (ow.map B) ow) ⟨rfl,by rw[how];exact hok.2.1.1⟩;have HDF:=kq (Dig (fo.map B) fo) ⟨rfl,by rw[hfo];exact hok.2.2⟩;have HMC:=kp (fun w' (hb:Grow w w')=>show ∀j u,(encAtK p)[j]? = some u→w'.cell? ⟨b,off+k*98+j,none⟩=some u from fun j u hu=>(hb.cell (p:=⟨b,off+k*98+j,none⟩) hbl).trans (hc j u hu));have HE32:=kq ((encAtK p)[32]? = some (.int .i64 (ix:Int))) (by rw[encAtK_ix hok,hix1]);have HE65:=kq ((encAtK p)[97]? = some (.int .u64 (am:Int))) (by rw[encAtK_amt hok,ham]);have HET:=kq (∀j u,(tx.map B)[j]? = some u→(encAtK p)[0+j]? = some u) (fun j u hu=>encAtK_id hok (by rw[← htx];exact hu));have HEO:=kq (∀j u,(ow.map B)[j]? = some u→(encAtK p)[65+j]? = some u) (fun j u hu=>encAtK_ow hok (by rw[← how];exact hu));have HEF:=kq (∀j u,(fo.map B)[j]? = some u→(encAtK p)[33+j]? = some u) (fun j u hu=>encAtK_for hok (by rw[← hfo];exact hu));obtain⟨pv,hpv⟩:=xe (encAtK p);rw[← hpv]at HMC HE32 HE65 HET HEO HEF;obtain⟨tb,htb⟩:=xe (tx.map B);rw[← htb]at HDT HET;obtain⟨ob,hob⟩:=xe (ow.map B);rw[← hob]at HDO HEO;obtain⟨fb,hfb⟩:=xe (fo.map B);rw[← hfb]at HDF HEF;obtain⟨mi,hmi⟩:=xe ((numB ix).length);have lmi:mi≤9:=by rw[hmi];exact numB_le (by omega)
   obtain⟨ma,hma⟩:=xe ((numB am).length);have lma:ma≤9:=by rw[hma];exact numB_le (by omega)
   have HRI:=kp (fun w=>rnum_any ix w (by omega));have HRA:=kp (fun w=>rnum_any am w (by omega));rw[← hmi]at HRI;rw[← hma]at HRA;clear hmi hma hp hc hok hix hix1 hix2 ham ham2 htx how hfo hpv htb hob hfb hbl;have hmb:m≤30000:=by omega
   have HMT:=kq (∀j u,tb[j]? = some u→w_.cell? ⟨b,off+k*98+0+j,none⟩=some u) (fun j u hu=>by have h1:=HMC.o w_ HG.o (0+j) u (HET.o j u hu);rw[← Nat.add_assoc]at h1;exact h1);go_wp2_with (with_reducible refine wlm 21 row_id HMT.o HDT.o.len ?_);clear HMT;go_wp2_with fail;refine(tbytes_any HDT.o _).mono ?_;rintro e v_ ⟨A7,c7,rfl,hs_,hc_,y_⟩;have HSL:=kp hs_;clear hs_ hc_;replace HG:=kp (HG.o.grow' y_);replace HW:=kp (HW.o.grow y_);clear y_;try clear w_
   rename World=>w_;have HZB:=kq (Z≤w_.heap.size) (by rw[HZ.o];exact HG.o.size);have HALL:=kp (all_bytes (tx));go_wp2_with (at_builtin;refine wpl_apps rfl rfl el_u8 HW.o rfl HSL.o rfl HALL.o (by omega) (by omega) HZB.o ?_);intro A8 c8 w3_ ho_ x_ hA_;have hst:=accR HG.o HZ.o HW.o ho_ x_;obtain⟨m1,hm1⟩:=xe (m+32);obtain⟨a1,ha1⟩:=xe (acc++tx);have hb1:m1≤m+32:=by omega
   rw[← hm1,← ha1]at hst;rw[← hm1];have HK1:=kp ha1;clear ho_ x_ hA_ HW HG HSL HZB HALL;have HW:=kp hst.1;have HG:=kp hst.2;clear hst hm1 ha1;try clear w_
   rename World=>w_;have c1:=HMC.o w_ HG.o _ _ HE32.o;have q1:=conv_u64' (n:=ix) (by omega);go_wp2_with fail;refine(HRI.o _).mono ?_;rintro e v_ ⟨A7,c7,rfl,ho_,hc_,y_⟩;have HSL:=kp (Sl.of_own ho_);clear ho_ hc_;replace HG:=kp (HG.o.grow' y_);replace HW:=kp (HW.o.grow y_);clear y_;try clear w_
   rename World=>w_;clear c1 q1;have HZB:=kq (Z≤w_.heap.size) (by rw[HZ.o];exact HG.o.size);have HALL:=kp (all_bytes (numB ix));go_wp2_with (at_builtin;refine wpl_apps rfl rfl el_u8 HW.o rfl HSL.o rfl HALL.o (by omega) (by omega) HZB.o ?_);intro A8 c8 w3_ ho_ x_ hA_;have hst:=accR HG.o HZ.o HW.o ho_ x_;obtain⟨m2,hm2⟩:=xe (m1+mi);obtain⟨a2,ha2⟩:=xe (a1++numB ix);have hb2:m2≤m+41:=by omega
   rw[← hm2,← ha2]at hst;rw[← hm2];have HK2:=kp ha2;clear ho_ x_ hA_ HW HG HSL HZB HALL;have HW:=kp hst.1;have HG:=kp hst.2;clear hst hm2 ha2;try clear w_
   rename World=>w_;have HMT:=kq (∀j u,fb[j]? = some u→w_.cell? ⟨b,off+k*98+33+j,none⟩=some u) (fun j u hu=>by have h1:=HMC.o w_ HG.o (33+j) u (HEF.o j u hu);rw[← Nat.add_assoc]at h1;exact h1);go_wp2_with (with_reducible refine wlm 39 row_id HMT.o HDF.o.len ?_);clear HMT;go_wp2_with fail;refine(tbytes_any HDF.o _).mono ?_;rintro e v_ ⟨A7,c7,rfl,hs_,hc_,y_⟩;have HSL:=kp hs_;clear hs_ hc_;replace HG:=kp (HG.o.grow' y_);replace HW:=kp (HW.o.grow y_);clear y_;try clear w_
   rename World=>w_;have HZB:=kq (Z≤w_.heap.size) (by rw[HZ.o];exact HG.o.size);have HALL:=kp (all_bytes (fo));go_wp2_with (at_builtin;refine wpl_apps rfl rfl el_u8 HW.o rfl HSL.o rfl HALL.o (by omega) (by omega) HZB.o ?_);intro A8 c8 w3_ ho_ x_ hA_;have hst:=accR HG.o HZ.o HW.o ho_ x_;obtain⟨m3,hm3⟩:=xe (m2+32);obtain⟨a3,ha3⟩:=xe (a2++fo);have hb3:m3≤m+73:=by omega
   rw[← hm3,← ha3]at hst;rw[← hm3];have HK3:=kp ha3;clear ho_ x_ hA_ HW HG HSL HZB HALL;have HW:=kp hst.1;have HG:=kp hst.2;clear hst hm3 ha3;try clear w_
   rename World=>w_;have HMT:=kq (∀j u,ob[j]? = some u→w_.cell? ⟨b,off+k*98+65+j,none⟩=some u) (fun j u hu=>by have h1:=HMC.o w_ HG.o (65+j) u (HEO.o j u hu);rw[← Nat.add_assoc]at h1;exact h1);go_wp2_with (with_reducible refine wlm 48 row_id HMT.o HDO.o.len ?_);clear HMT;go_wp2_with fail;refine(tbytes_any HDO.o _).mono ?_;rintro e v_ ⟨A7,c7,rfl,hs_,hc_,y_⟩;have HSL:=kp hs_;clear hs_ hc_;replace HG:=kp (HG.o.grow' y_);replace HW:=kp (HW.o.grow y_);clear y_;try clear w_
   rename World=>w_;have HZB:=kq (Z≤w_.heap.size) (by rw[HZ.o];exact HG.o.size);have HALL:=kp (all_bytes (ow));go_wp2_with (at_builtin;refine wpl_apps rfl rfl el_u8 HW.o rfl HSL.o rfl HALL.o (by omega) (by omega) HZB.o ?_);intro A8 c8 w3_ ho_ x_ hA_;have hst:=accR HG.o HZ.o HW.o ho_ x_;obtain⟨m4,hm4⟩:=xe (m3+32);obtain⟨a4,ha4⟩:=xe (a3++ow);have hb4:m4≤m+105:=by omega
   rw[← hm4,← ha4]at hst;rw[← hm4];have HK4:=kp ha4;clear ho_ x_ hA_ HW HG HSL HZB HALL;have HW:=kp hst.1;have HG:=kp hst.2;clear hst hm4 ha4;try clear w_
   rename World=>w_;have c1:=HMC.o w_ HG.o _ _ HE65.o;go_wp2_with fail;refine(HRA.o _).mono ?_;rintro e v_ ⟨A7,c7,rfl,ho_,hc_,y_⟩;have HSL:=kp (Sl.of_own ho_);clear ho_ hc_;replace HG:=kp (HG.o.grow' y_);replace HW:=kp (HW.o.grow y_);clear y_;try clear w_
   rename World=>w_;clear c1;have HZB:=kq (Z≤w_.heap.size) (by rw[HZ.o];exact HG.o.size);have HALL:=kp (all_bytes (numB am));have v1:IntKind.i64.wrap ((k:Int)+1)=(k:Int)+1:=IntWalk.i64_in _ (by omega);go_wp2_with (at_builtin;refine wpl_apps rfl rfl el_u8 HW.o rfl HSL.o rfl HALL.o (by clear v1;omega) (by clear v1;omega) HZB.o ?_);intro A8 c8 w3_ ho_ x_ hA_;have hst:=accR HG.o HZ.o HW.o ho_ x_;have HAN:=kq (a4++numB am=numB n++(l.take (k+1)).flatMap putAtK) (by rw[HSN.o,HPI.o,HK4.o,HK3.o,HK2.o,HK1.o,HAC.o];simp only [List.append_assoc]);have HREL:=kq (OwnAt w3_ Z A8 (m4+ma) c8 ((a4++numB am).map B)∧a4++numB am=numB n++(l.take (k+1)).flatMap putAtK∧Grow w w3_) ⟨hst.1,HAN.o,hst.2⟩;have HBD:=kq (m4+ma≤9+(k+1)*114) (by clear v1;omega);clear ho_ x_ hA_ hst HW HG HSL HZB HALL;go_wp2_with fail;go_roundw
   all_goals clear v1
   case rel=>exact⟨k+1,A8,m4+ma,c8,a4++numB am,by omega,by go_num,by first|rfl|simp,HBD.o,HREL⟩
   case measure=>simp [intOf];omega
  ·obtain rfl:k=n:=by omega
   have HAE:=kq (acc=out) (by have h:=HAC.o;rw[List.take_of_length_le (by rw[HIL2.o];exact Nat.le_refl _)] at h;rw[HPT.o];exact h);have HLEN:=kq (acc.length=m) (by have:=HW.o.1;simp at this;omega);have HSF:=kp (Sl.of_own HW.o);have HCF:=kp (own_cap1 HW.o);go_wp2_with fail;go_ret
   refine⟨A3,c3,by rw[← HAE.o,HLEN.o];rfl,by rw[← HAE.o,HLEN.o];exact HSF.o,by rw[← HAE.o,HLEN.o];exact HCF.o,by rw[← HAE.o,HLEN.o];omega,HG.o⟩
end Go.Proofs.YtnnjjbkdjkjnpaaGreatDoor

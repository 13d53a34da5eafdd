/- The contract of seisinref22.Inputs. -/
import Derived.Test.YtnnjjbkdjkjnpaaGreatDoorSpendPlaysRb33
set_option linter.unusedSimpArgs false
set_option linter.unusedVariables false
set_option maxRecDepth 100000
set_option maxHeartbeats 16000000
namespace Go.Proofs.YtnnjjbkdjkjnpaaGreatDoor
open Go.RowKit Go.Shelf
theorem hereX_false(t:Txn)(n me:Int):hereX t n me false=hereI t n me:=rfl
theorem hereX_true(t:Txn)(n me:Int):hereX t n me true=hereO t n me:=rfl
theorem rinputs_any {tv : List Value} {t : Txn} (n me : Int) {X : CoinsL} {Y : LocksL} {A1 : Option Addr} {n1 c1 : Nat} {A2 : Option Addr} {n2 c2 : Nat} (w : World) (h : TxAt w tv t) (hx : RowC w A1 n1 X) (hy : RowK w A2 n2 Y) (hn1 : n1 ≤ 1000000) (hn2 : n2 ≤ 1000000) :
  Calls Tryz.prog 26 #[.agg (stV A1 n1 c1 A2 n2 c2).toArray,.agg tv.toArray,.int .i64 n,.int .i64 me] w fun e w'=>e=.returned (.tuple #[.int .u64 (inputsR X Y t n me).1,.int .i64 (inputsR X Y t n me).2])∧Grow w w':=by
 have HTC:=kp h.cl;have HCK:=kp (fun w' (k:Grow w w')=>(h.grow k).rcheck);have HAT:=kp (fun w' (k:Grow w w')=>rhere_any n me false w' (h.grow k));rw[hereX_false]at HAT;have HCG:=kp (fun w' (k:Grow w w') (p:PtK) (hp:PtOK p)=>rget19_any (c:=c1) p w' (hx.grow k) hp hn1);have HKG:=kp (fun w' (k:Grow w w') (p:PtK) (hp:PtOK p)=>rget21_any (c:=c2) p w' (hy.grow k) hp hn2)
 have HCO:=kp (fun p=>show CoinOK ((lookC X p).getD noCoin) by
  cases hl:lookC X p with
  | none=>exact noCoin_ok
  | some x =>
   obtain⟨e,he,rfl⟩:=Option.map_eq_some_iff.1 (show(X.find? (fun e=>e.1 == p)).map (·.2)=some x from hl)
   exact(hx.2.1 e (List.mem_of_find?_eq_some he)).2)
 have HKO:=kp (fun(p:PtK) (hp:PtOK p)=>show AtOKK (getK Y p) by
  unfold getK;cases hl:lookL Y p with
  | none=>exact noAtK_ok
  | some x =>
   obtain⟨e,he,rfl⟩:=Option.map_eq_some_iff.1 (show(Y.find? (fun e=>e.1 == p)).map (·.2)=some x from hl)
   exact⟨hp,(hy.2.1 e (List.mem_of_find?_eq_some he)).2⟩)
 have HSC:=kp (stV_cl (A:=A1) (n:=n1) (c:=c1) (A2:=A2) (n2:=n2) (c2:=c2));have HS0:=kq ((stV A1 n1 c1 A2 n2 c2)[0]? = some (.slice A1 n1 c1)∧(stV A1 n1 c1 A2 n2 c2)[1]? = some (.slice A2 n2 c2)) ⟨rfl,rfl⟩;obtain⟨stv,hstv⟩:=xe (stV A1 n1 c1 A2 n2 c2);rw[← hstv]at HSC HS0 ⊢;obtain⟨A,c,l,hv0,hi,hl,hn⟩:=h.ins;have HI:=kp hi;have HL:=kp hl;have HV0:=kp hv0;obtain⟨R,hR⟩:=xe (inputsR X Y t n me);have HR:=kq (R=if checkT t≠0 then(0,checkT t) else if hereI t n me=[] then(0,11) else sumsR X Y t.ins (hereI t n me) 0) hR;rw[← hR];have HKL:=kp (fun k (hk:k∈hereI t n me)=>hereI_lt hk);have HRT:=kp (fun hck=>right_of (t:=t) hck);have hk16:=hereI_len t n me;obtain⟨ks,hks⟩:=xe (hereI t n me);rw[← hks]at HKL HR HAT hk16;obtain⟨w_,hw⟩:=xe w;have HB:=kq (Below w.heap.size w w_) (by rw[hw];exact Below.refl _ _)
 suffices H:Calls Tryz.prog 26 #[.agg stv.toArray,.agg tv.toArray,.int .i64 n,.int .i64 me] w_ (fun e w'=>e=.returned (.tuple #[.int .u64 R.1,.int .i64 R.2])∧Grow w w') by rw[hw]at H;exact H
 clear hw h hx hy hv0 hi hl hR hks hstv
 go_enter Tryz.func26,Tryz.ntmps26
 go_wp2_with (with_reducible first|refine wpl_box (o:=⟨some 4,_,_,_,_,_⟩) rfl rfl rfl ?_);intro v_ b_ y_ s_;have HX_:=kp (at_mk b_ HSC.o.len);clear b_ s_;have HG_:=kp HB.o.size;replace HB:=kp (HB.o.grow' y_);generalize x_:w_.heap.size=g4 at HX_ HG_ ⊢;clear x_;have HT_g:=HG_;clear HG_;have HT:=HX_;clear y_ HX_;try clear w_
 rename World=>w_;go_wp2_with (with_reducible first|refine wpl_box (o:=⟨some 5,_,_,_,_,_⟩) rfl rfl rfl ?_);intro v_ b_ y_ s_;have HX_:=kp (at_mk b_ HTC.o.len);clear b_ s_;have HG_:=kp HB.o.size;replace HB:=kp (HB.o.grow' y_);replace HT:=kp (HT.o.grow y_);generalize x_:w_.heap.size=g5 at HX_ HG_ ⊢;clear x_;have HX_g:=HG_;clear HG_;have HX:=HX_;clear y_ HX_;try clear w_
 rename World=>w_;go_wp2_with (with_reducible refine wlb 19 row_tx HX.o.blk HX.o.len ?_);refine(HCK.o _ HB.o).mono ?_;rintro e w_ ⟨rfl,y_⟩;replace HB:=kp (HB.o.grow' y_);replace HX:=kp (HX.o.grow y_);replace HT:=kp (HT.o.grow y_);clear y_;by_cases hck:checkT t=0
 case neg =>
  have z1:(checkT t != 0)=true:=by simpa using hck
  have HE:=kq (R=(0,checkT t)) (by rw[HR.o,if_pos hck]);go_wp2_with fail
  go_ret2
  exact⟨by rw[HE.o];rfl,HB.o⟩
 case pos =>
  have HR1:=kq (R=if ks=[] then(0,11) else sumsR X Y t.ins ks 0) (by rw[HR.o,if_neg (fun h=>h hck)]);have HRR:=kp (HRT.o hck);rw[hck];have z1:((0:Int) != 0)=false:=by decide
  clear HR hck HRT;go_wp2_with (with_reducible refine wlb 24 row_tx HX.o.blk HX.o.len ?_);refine(HAT.o _ HB.o).mono ?_;rintro e v_ ⟨A3,c3,rfl,ha,y_⟩;have HK:=kp (ha.less HB.o.size);replace HX:=kp (HX.o.grow y_);replace HT:=kp (HT.o.grow y_);replace HB:=kp (HB.o.grow' y_);clear ha y_;try clear w_
  rename World=>w_;by_cases hk0:ks=[]
  case pos =>
   have HE:=kq (R=(0,11)) (by rw[HR1.o,if_pos hk0]);have z2:((ks.length:Int) == 0)=true:=by rw[hk0];rfl
   go_wp2_with fail
   go_ret2
   exact⟨by rw[HE.o];rfl,HB.o⟩
  case neg =>
   have HR2:=kq (sumsR X Y t.ins ks 0=R) (by rw[HR1.o,if_neg hk0])
   have z2:((ks.length:Int) == 0)=false:=by
    have:ks.length≠0:=fun h=>hk0 (List.length_eq_zero_iff.1 h)
    simp;omega
   clear HR1 hk0;go_wp2_with fail;go_loopw [12,13] (fun s15 iv wr=>∃(k:Nat) (sm:Int),k≤ks.length∧iv=.int .i64 k∧s15=.int .u64 sm∧Hid (At wr g5 27 4 tv∧At wr g4 37 2 stv∧NatsAt wr w.heap.size A3 ks∧Below w.heap.size w wr∧sumsR X Y t.ins (ks.drop k) sm=R)) (fun _ iv _=>ks.length - (intOf iv).toNat)
   case atStart=>exact⟨0,0,Nat.zero_le _,rfl,rfl,kp ⟨HX.o,HT.o,HK.o,HB.o,by rw[List.drop_zero];exact HR2.o⟩⟩
   case round =>
    obtain⟨k,sm,hk,rfl,rfl,hI⟩:=hrel;clear HX HT HK HB HR2;have HX:=kp hI.o.1;have HT:=kp hI.o.2.1;have HK:=kp hI.o.2.2.1;have HB:=kp hI.o.2.2.2.1;have HS:=kp hI.o.2.2.2.2;clear hI;rename World=>w_;by_cases hlt:k < ks.length
    ·obtain⟨b5,o5,j,hA3,hj,c5_⟩:=HK.o.at_ hlt;have hjl:=HKL.o j (List.mem_of_getElem? hj);obtain⟨bi,oi,p,rfl,hp,hok,hcc⟩:=HI.o.at_ hjl;have hp2:t.ins[j]? = some p.2:=by rw[← HL.o,List.getElem?_map,hp];rfl
     have HST:=kq (R=if inputE X Y p.2≠0 then(0,inputE X Y p.2) else sumsR X Y t.ins (ks.drop (k+1)) (w64 (sm+p.2.amount))) (by rw[← HS.o];exact sumsR_step hj hp2);rw[inputE_eq]at HST;have hsl:p.2.secret.length≤100000:=by have:=(HRR.o.2.2.2 p.2 (List.mem_of_getElem? hp2)).1;omega
     have hbi:bi < w.heap.size:=World.block_lt_of_cell? w _ (hcc 32 _ (in_at (v:=p.1) hok.2).1);have HPO:=kp (in_ok hok.2);have HBI:=kp hbi;have HC:=kp (fun w' (hb:Below w.heap.size w w')=>show ∀i u,(inV p.1 p.2)[i]? = some u→w'.cell? ⟨bi,oi+j*35+i,none⟩=some u from fun i u hu=>bcell hb (hcc i u hu));have HPC:=kp (inV_cl hok);have HIN:=kp (in_at (v:=p.1) hok.2);have HPT:=kp (fun i u (hu:(ptV p.2.pt)[i]? = some u)=>in_pt p.1 p.2 hu);have HPV:=kp (ptV_cl HPO.o);obtain⟨⟨As,cs,hvs,hcs,hss⟩,-⟩:=hok;have HOW:=kp (fun w' (k:Grow w w')=>rtowner_any (A:=As) (c:=cs) (bs:=p.2.secret) (zs:=(ownerB p.2.secret).map B) ⟨rfl,sha_length _⟩ w' (Sl.grow hss k) hsl);have HWD:=kq (Dig ((ownerB p.2.secret).map B) (ownerB p.2.secret)) ⟨rfl,sha_length _⟩;have HCQ:=kp (fun w' (k:Grow w w')=>HCG.o w' k p.2.pt HPO.o);have HKQ:=kp (fun w' (k:Grow w w')=>HKG.o w' k p.2.pt HPO.o);have HC1:=kp (HCO.o p.2.pt);have HEK:=kp (encAtK_cl (HKO.o p.2.pt HPO.o));have HOD:=kq (Dig (((lookC X p.2.pt).getD noCoin).1.map B) ((lookC X p.2.pt).getD noCoin).1) ⟨rfl,HC1.o.1⟩;have HZC:=kp (coinV_cl HC1.o);have HZA:=kp (coin_amt HC1.o);have HZO:=kp (fun i u (hu:(((lookC X p.2.pt).getD noCoin).1.map B)[i]? = some u)=>coin_own (c:=(lookC X p.2.pt).getD noCoin) hu);rw[hvs]at HC HPC HIN HPT;unfold ptA at HCQ HKQ;unfold coinA at HCQ;obtain⟨co,hco⟩:=xe ((lookC X p.2.pt).getD noCoin);rw[← hco]at HST HCQ HC1 HOD HZC HZA HZO;obtain⟨il,hil⟩:=xe ((lookC X p.2.pt).isSome);rw[← hil]at HST HCQ;obtain⟨lk,hlk⟩:=xe ((lookL Y p.2.pt).isSome);rw[← hlk]at HST HKQ;obtain⟨ek,hek⟩:=xe (encAtK (getK Y p.2.pt));rw[← hek]at HKQ HEK;obtain⟨smm,hsm⟩:=xe (decide (co.1=ownerB p.2.secret));rw[← hsm]at HST
     have hneq:∀w',(binOp .neq 46 (.agg (co.1.map B).toArray) (.agg ((ownerB p.2.secret).map B).toArray)).run Tryz.prog w'=.ok (.bool (!smm)) w':=fun w'=>by
      rw[HOD.o.neq HWD.o w',hsm]
      congr 2
      by_cases hq:co.1=ownerB p.2.secret <;> simp [hq]
     have HNQ:=kp hneq;obtain⟨zs,hzs⟩:=xe ((ownerB p.2.secret).map B);rw[← hzs]at HOW HWD HNQ;obtain⟨ys,hys⟩:=xe (co.1.map B);rw[← hys]at HOD HZO HNQ;obtain⟨cv,hcv⟩:=xe (coinV co);rw[← hcv]at HCQ HZC HZA HZO;obtain⟨es,hes⟩:=xe (ptV p.2.pt);rw[← hes]at HPT HPV HCQ HKQ;obtain⟨xs,hxs⟩:=xe (inV (.slice As p.2.secret.length cs) p.2);rw[← hxs]at HC HPC HIN HPT;obtain⟨ca,hca⟩:=xe co.2;rw[← hca]at HST HZA;obtain⟨ia,hia⟩:=xe p.2.amount;rw[← hia]at HST HIN;have q1:((j:Int) < (t.ins.length:Int)):=by omega
     have HJ:=kp hj;subst hA3;clear hj hp hcc hp2 hbi hvs hss hco hil hlk hek hsm hneq hzs hys hcv hes hxs hca hia HS c5_ hsl hcs;go_wp2_with fail;try go_wp2_with fail
     repeat' (first|(with_reducible refine wpp (id:=11) Grow [0,1,0,0,0,1,0,1,4,3] (.get 0 (.get 1 (.get 2 (.get 3 (.get 4 (.get 5 (.get 6 (.get 7 (.act 8 (.act 9 .done)))))))))) Grow.refl Grow.trans ?_)|go_values|go_skip|go_guarded|go_step|go_upon|go_back)
     intro w_ hd_;have y_:=hd_.grow;replace HB:=kp (HB.o.grow' y_);replace HX:=kp (HX.o.grow y_);replace HT:=kp (HT.o.grow y_);replace HK:=kp (HK.o.grow y_);clear y_ hd_;have c0:=HX.o.blk.at_ HV0.o;obtain⟨b6,o6,j2,hA2,hj2,c5⟩:=HK.o.at_ hlt;rw[HJ.o]at hj2;obtain rfl:=Option.some.inj hj2;obtain⟨rfl,rfl⟩:b6=b5∧o6=o5:=by injection hA2 with h;injection h with h1 h2;exact⟨h1.symm,h2.symm⟩
     repeat (first|(refine plc (fun K hK=>?_);go_simp;refine hK _ _ ?_;clear hK K)|(refine pls (fun K hK=>?_);go_simp;refine hK _ _ ?_;clear hK K)|(refine psa (fun K hK=>?_);go_simp;refine hK _ _ ?_;clear hK K)|(refine pl_load rfl rfl (by first|exact wanted_none rfl|(go_simp;done)|rfl) rfl (by first|rfl|(go_simp;rfl)) (by kernel_rfl) (by first|exact c0|exact c5) (fun K hK=>?_);go_simp;refine hK _ _ ?_;clear hK K)|(refine pl_loadnow rfl rfl (by first|exact wanted_none rfl|(go_simp;done)|rfl) rfl (by first|rfl|(go_simp;rfl)) (by kernel_rfl) (by first|exact c0|exact c5) (fun K hK=>?_);go_simp;refine hK _ _ ?_;clear hK K))
     have HMQ:=kp (HC.o _ HB.o);have HBQ:=kp (Nat.lt_of_lt_of_le HBI.o HB.o.size);refine pl_loadm rfl (by decide) (by exact wanted_none rfl) rfl row_tin HMQ.o HBQ.o (by first|rfl|(go_simp;done)|rfl) HPC.o.len (fun K hK=>?_);go_simp;refine hK _ _ ?_;clear hK K;repeat ((first|refine plc (fun K hK=>?_)|refine pls (fun K hK=>?_)|refine psa (fun K hK=>?_));go_simp;refine hK _ _ ?_;clear hK K)
     clear c0 c5 HMQ HBQ hA2 hj2;obtain⟨wq,hwq⟩:=xe w_;rw[← hwq]at HB HX HT HK;have HB1:=HB;clear HB;have HB:=kq (Below wq.heap.size wq w_) (by rw[hwq];exact Below.refl _ _);clear hwq;refine pl_act rfl (by first|exact wanted_none rfl|(go_simp;done)|rfl) (fun K hK=>?_);have HG:=kp HB.o.size;show wpList _ _ _ [⟨some _,.alloc _,_,_,_,_⟩] _ _
     go_wp2_with (with_reducible first|refine wpl_alloc (o:=⟨some 14,_,_,_,_,_⟩) rfl rfl zero_tin ?_);intro v_ b_ y_ s_;have HV:=kp (at_mk b_ len_tin);generalize x_:w_.heap.size=gV at HV HG ⊢;go_wp2_with fail;refine hK _ _ (fun _=>y_) ?_;clear hK K b_ s_ x_;replace HB:=kp (HB.o.grow' y_);clear y_;try clear w_
     rename World=>w_;repeat ((first|refine plc (fun K hK=>?_)|refine pls (fun K hK=>?_)|refine psa (fun K hK=>?_));go_simp;refine hK _ _ ?_;clear hK K)
     refine pl_act rfl (by first|exact wanted_none rfl|(go_simp;done)|rfl) (fun K hK=>?_);show wpList _ _ _ [⟨none,.store _ _ _,_,_,_,_⟩] _ _
     go_wp2_with (with_reducible refine wsb row_tin HV.o.blk HV.o.len HPC.o.len HPC.o.one ?_);intro v_ b_ g_ s_;replace HB:=kp (put_below HB.o HG.o g_);replace HV:=kp (at_mk b_ HPC.o.len);clear b_ g_ s_;try clear w_
     rename World=>w_;go_wp2_with fail;refine hK _ _ (fun h=>by cases h) ?_;clear hK K;repeat ((first|refine plc (fun K hK=>?_)|refine pls (fun K hK=>?_)|refine psa (fun K hK=>?_));go_simp;refine hK _ _ ?_;clear hK K)
     refine pl_done ?_;replace HX:=kp (HX.o.grow HB.o);replace HT:=kp (HT.o.grow HB.o);replace HK:=kp (HK.o.grow HB.o);replace HB:=kp (HB1.o.grow' HB.o);clear HB1 HG;try clear wq
     have c2:=HT.o.blk.at_ HS0.o.2;have HM_:=kq (∀i u,es[i]? = some u→w_.cell? ⟨gV,0+i,none⟩=some u) (fun i u hu=>by rw[Nat.zero_add];exact HV.o.blk.at_ (HPT.o i u hu));go_wp2_with (with_reducible refine wlm 49 row_point HM_.o HPV.o.len ?_);refine(HKQ.o w_ HB.o).mono ?_;clear HM_ c2;rintro e w_ ⟨rfl,y_⟩;replace HB:=kp (HB.o.grow' y_);replace HX:=kp (HX.o.grow y_);replace HT:=kp (HT.o.grow y_);replace HK:=kp (HK.o.grow y_);replace HV:=kp (HV.o.grow y_);clear y_;go_wp2_with (with_reducible first|refine wpl_alloc (o:=⟨some 15,_,_,_,_,_⟩) rfl rfl zero_atk ?_);intro w1_ hb1_ hbw1_ hsz1_;have HB1_:=kp (at_mk hb1_ len_atk);have HBW1_:=kp hbw1_;have HZ1_:=kp hsz1_;clear hb1_ hbw1_ hsz1_;go_wp2_with (with_reducible refine wsb row_atk HB1_.o.blk HB1_.o.len HEK.o.len HEK.o.one ?_);intro v_ b_ g_ s_;have y_:=var_grow HBW1_.o HZ1_.o g_;have HX_:=kp (at_mk b_ HEK.o.len);clear b_ g_ s_ HB1_ HBW1_ HZ1_;replace HB:=kp (HB.o.grow' y_);replace HX:=kp (HX.o.grow y_);replace HT:=kp (HT.o.grow y_);replace HK:=kp (HK.o.grow y_);replace HV:=kp (HV.o.grow y_);generalize x_:w_.heap.size=gW at HX_ ⊢;clear x_;have HW:=HX_;clear y_ HX_;clear w1_;try clear w_
     rename World=>w_;clear HW;cases lk with
     | true =>
      have HE:=kq (R=(0,14)) (by rw[HST.o];simp);go_wp2_with fail
      go_ret2
      exact⟨by rw[HE.o];rfl,HB.o⟩
     | false =>
      have c3:=HT.o.blk.at_ HS0.o.1;have HM_:=kq (∀i u,es[i]? = some u→w_.cell? ⟨gV,0+i,none⟩=some u) (fun i u hu=>by rw[Nat.zero_add];exact HV.o.blk.at_ (HPT.o i u hu));go_wp2_with (with_reducible refine wlm 58 row_point HM_.o HPV.o.len ?_);refine(HCQ.o w_ HB.o).mono ?_;clear HM_ c3;rintro e w_ ⟨rfl,y_⟩;replace HB:=kp (HB.o.grow' y_);replace HX:=kp (HX.o.grow y_);replace HT:=kp (HT.o.grow y_);replace HK:=kp (HK.o.grow y_);replace HV:=kp (HV.o.grow y_);clear y_;go_wp2_with (with_reducible first|refine wpl_alloc (o:=⟨some 17,_,_,_,_,_⟩) rfl rfl zero_coin ?_);intro w1_ hb1_ hbw1_ hsz1_;have HB1_:=kp (at_mk hb1_ len_coin);have HBW1_:=kp hbw1_;have HZ1_:=kp hsz1_;clear hb1_ hbw1_ hsz1_;go_wp2_with (with_reducible refine wsb row_coin HB1_.o.blk HB1_.o.len HZC.o.len HZC.o.one ?_);intro v_ b_ g_ s_;have y_:=var_grow HBW1_.o HZ1_.o g_;have HX_:=kp (at_mk b_ HZC.o.len);clear b_ g_ s_ HB1_ HBW1_ HZ1_;replace HB:=kp (HB.o.grow' y_);replace HX:=kp (HX.o.grow y_);replace HT:=kp (HT.o.grow y_);replace HK:=kp (HK.o.grow y_);replace HV:=kp (HV.o.grow y_);generalize x_:w_.heap.size=gW2 at HX_ ⊢;clear x_;have HW:=HX_;clear y_ HX_;clear w1_;try clear w_
      rename World=>w_;cases il with
      | false =>
       have HE:=kq (R=(0,13)) (by rw[HST.o];simp);go_wp2_with fail
       go_ret2
       exact⟨by rw[HE.o];rfl,HB.o⟩
      | true =>
       go_wp2_with fail;try go_wp2_with fail
       repeat' (first|(with_reducible refine wpp (id:=18) Grow [0,1,0,2,4,0] (.get 0 (.get 1 (.get 2 (.get 3 (.act 4 (.get 5 .done)))))) Grow.refl Grow.trans ?_)|go_values|go_skip|go_guarded|go_step|go_upon|go_back)
       intro w_ hd_;have y_:=hd_.grow;replace HB:=kp (HB.o.grow' y_);replace HX:=kp (HX.o.grow y_);replace HT:=kp (HT.o.grow y_);replace HK:=kp (HK.o.grow y_);replace HV:=kp (HV.o.grow y_);replace HW:=kp (HW.o.grow y_);clear y_ hd_;have HM1:=kq (∀i u,ys[i]? = some u→w_.cell? ⟨gW2,0+i,none⟩=some u) (fun i u hu=>by rw[Nat.zero_add];exact HW.o.blk.at_ (HZO.o i u hu));have HGW:=kp HW.o.lt;have c34:=HV.o.blk.at_ HIN.o.2.2;repeat ((first|refine plc (fun K hK=>?_)|refine pls (fun K hK=>?_)|refine psa (fun K hK=>?_));go_simp;refine hK _ _ ?_;clear hK K)
       refine pl_loadm rfl (by decide) (by exact wanted_none rfl) rfl row_id HM1.o HGW.o (by first|rfl|(go_simp;done)|rfl) HOD.o.len (fun K hK=>?_);go_simp;refine hK _ _ ?_;clear hK K;repeat (first|(refine plc (fun K hK=>?_);go_simp;refine hK _ _ ?_;clear hK K)|(refine pls (fun K hK=>?_);go_simp;refine hK _ _ ?_;clear hK K)|(refine psa (fun K hK=>?_);go_simp;refine hK _ _ ?_;clear hK K)|(refine pl_load rfl rfl (by first|exact wanted_none rfl|(go_simp;done)|rfl) rfl (by first|rfl|(go_simp;rfl)) (by kernel_rfl) (by first|exact c34) (fun K hK=>?_);go_simp;refine hK _ _ ?_;clear hK K)|(refine pl_loadnow rfl rfl (by first|exact wanted_none rfl|(go_simp;done)|rfl) rfl (by first|rfl|(go_simp;rfl)) (by kernel_rfl) (by first|exact c34) (fun K hK=>?_);go_simp;refine hK _ _ ?_;clear hK K))
       clear c34 HM1 HGW;refine pl_act rfl (by first|exact wanted_none rfl|(go_simp;done)|rfl) (fun K hK=>?_);go_wp2_with fail;refine(HOW.o _ HB.o).mono ?_;rintro e w_ ⟨rfl,y_⟩;go_wp2_with fail;refine hK _ _ (fun _=>y_) ?_;clear hK K;replace HB:=kp (HB.o.grow' y_);replace HX:=kp (HX.o.grow y_);replace HT:=kp (HT.o.grow y_);replace HK:=kp (HK.o.grow y_);replace HV:=kp (HV.o.grow y_);replace HW:=kp (HW.o.grow y_);clear y_;have hne:=HNQ.o;repeat ((first|refine plc (fun K hK=>?_)|refine pls (fun K hK=>?_)|refine psa (fun K hK=>?_));go_simp;refine hK _ _ ?_;clear hK K)
       clear hne;refine pl_done ?_;cases smm with
       | false =>
        have HE:=kq (R=(0,10)) (by rw[HST.o];simp);go_wp2_with fail
        go_ret2
        exact⟨by rw[HE.o];rfl,HB.o⟩
       | true =>
        have c32:=HW.o.blk.at_ HZA.o;have c33:=HV.o.blk.at_ HIN.o.2.1;by_cases hne:ca=ia
        ·have HST2:=kq (sumsR X Y t.ins (ks.drop (k+1)) (w64 (sm+ia))=R) (by rw[HST.o];simp [hne]);subst hne;have z3:(ca != ca)=false:=by simp
         clear HST;go_wp2_with fail;go_roundw
         case rel=>exact⟨k+1,w64 (sm+ca),by omega,by go_num,rfl,kp ⟨HX.o,HT.o,HK.o,HB.o,HST2.o⟩⟩
         case measure=>simp [intOf];omega
        ·have z3:(ca != ia)=true:=by simpa using hne
         have HE:=kq (R=(0,15)) (by rw[HST.o];simp [hne]);go_wp2_with fail
         go_ret2
         exact⟨by rw[HE.o];rfl,HB.o⟩
    ·obtain rfl:k=ks.length:=by omega
     have HE:=kq (R=(sm,0)) (by rw[← HS.o,List.drop_length];rfl);go_wp2_with fail
     go_ret2
     exact⟨by rw[HE.o];rfl,HB.o⟩
theorem ret_c_t_t {P : Program} {fn : Func} {a : Act} {w : World} {p q r : Tmp} {ty : TypeId} (h : fn.results = #[.cell p ty, .tmp q, .tmp r]) {n : Nat} (hT : RowT P ty n) {g : Nat} {t : TypeId} {cs : List Value} (hb : Blk w g t cs) (hp : a.tmps.getD p undef = .pointer (some ⟨g, 0, none⟩)) (hn : cs.length = n)
  {v u:Value} (hq:a.tmps.getD q undef=v) (hr:a.tmps.getD r undef=u) (hd:a.defers=[])
  {R:Ending→World→Prop} (hR:R (.returned (.tuple #[.agg cs.toArray,v,u])) w):bodyPost P fn R .ret a w:=by
 obtain⟨d,hu,hdd,hi⟩:=hT;refine bodyPost_ret (v:=.tuple #[.agg cs.toArray,v,u]) ?_ hd hR;have hp':a.tmps[p]?.getD undef=.pointer (some ⟨g,0,none⟩):=by simpa using hp
 have hq':a.tmps[q]?.getD undef=v:=by simpa using hq
 have hr':a.tmps[r]?.getD undef=u:=by simpa using hr
 have hload:=run_loadVar_row (P:=P) w g t ty cs.toArray (0,0) d hb hu (by revert hdd;cases d <;> simp) (by rw[hi];simp [hn]);simp [results,h,hp',hq',hr',asAddr,hload]
def StAt(w:World)(sv:List Value)(X:CoinsL)(Y:LocksL):Prop:=∃A n c A2 n2 c2,sv=stV A n c A2 n2 c2∧RowC w A n X∧RowK w A2 n2 Y
section
variable {w w':World} {sv:List Value} {X:CoinsL} {Y:LocksL}
theorem StAt.grow(h:StAt w sv X Y)(k:Grow w w'):StAt w' sv X Y:=by
 obtain⟨A,n,c,A2,n2,c2,h1,h2,h3⟩:=h;exact⟨A,n,c,A2,n2,c2,h1,h2.grow k,h3.grow k⟩
theorem StAt.cl(h:StAt w sv X Y):Cl 2 sv:=by obtain⟨A,n,c,A2,n2,c2,rfl,_⟩:=h;exact stV_cl
theorem StAt.coins(h:StAt w sv X Y):∃A n c,sv[0]? = some (.slice A n c)∧RowC w A n X:=by obtain⟨A,n,c,A2,n2,c2,rfl,h2,_⟩:=h;exact⟨A,n,c,rfl,h2⟩
theorem StAt.locks(h:StAt w sv X Y):∃A n c,sv[1]? = some (.slice A n c)∧RowK w A n Y:=by obtain⟨A,n,c,A2,n2,c2,rfl,_,h3⟩:=h;exact⟨A2,n2,c2,rfl,h3⟩
theorem StAt.setC(h:StAt w sv X Y){A:Option Addr}{n c:Nat}{X':CoinsL}(hx:RowC w A n X'):StAt w (sv.set 0 (.slice A n c)) X' Y:=by
 obtain⟨A1,n1,c1,A2,n2,c2,rfl,_,h3⟩:=h;exact⟨A,n,c,A2,n2,c2,rfl,hx,h3⟩
theorem StAt.setK(h:StAt w sv X Y){A:Option Addr}{n c:Nat}{Y':LocksL}(hy:RowK w A n Y'):StAt w (sv.set 1 (.slice A n c)) X Y':=by
 obtain⟨A1,n1,c1,A2,n2,c2,rfl,h2,_⟩:=h;exact⟨A1,n1,c1,A,n,c,rfl,h2,hy⟩
theorem StAt.off2{g:Nat}{T:TypeId}{ys:List Value}(h:StAt w sv X Y)(hg:At w g T 2 ys)(hw:w.grownBy w' (some g)):StAt w' sv X Y:=by
 obtain⟨A,n,c,A2,n2,c2,h1,h2,h3⟩:=h;exact⟨A,n,c,A2,n2,c2,h1,h2.off2 hg hw,h3.off2 hg hw⟩
theorem StAt.wide(h:StAt w sv X Y)(k:∀q,q < w.heap.size→(∃o u,w.cell? ⟨q,o+2,none⟩=some u)→w'.heap[q]? = w.heap[q]?)(hs:w.heap.size≤w'.heap.size):StAt w' sv X Y:=by
 obtain⟨A,n,c,A2,n2,c2,h1,⟨h2,h2'⟩,⟨h3,h3'⟩⟩:=h;refine⟨A,n,c,A2,n2,c2,h1,⟨⟨h2.1,fun hn=>?_⟩,h2'⟩,⟨⟨h3.1,fun hn=>?_⟩,h3'⟩⟩
 ·obtain⟨q,off,hA,hq,hcell⟩:=h2.2 hn;have hl:=h2.1;obtain⟨u,hu⟩:∃u,(X.flatMap encAtC)[2]? = some u:=⟨_,List.getElem?_eq_getElem (by omega)⟩;exact⟨q,off,hA,Nat.lt_of_lt_of_le hq hs,fun j v hv=>(World.cell?_of_block (w:=w) (k q hq ⟨off,u,hcell 2 u hu⟩)).trans (hcell j v hv)⟩
 ·obtain⟨q,off,hA,hq,hcell⟩:=h3.2 hn;have hl:=h3.1;obtain⟨u,hu⟩:∃u,(Y.flatMap encAtK)[2]? = some u:=⟨_,List.getElem?_eq_getElem (by omega)⟩;exact⟨q,off,hA,Nat.lt_of_lt_of_le hq hs,fun j v hv=>(World.cell?_of_block (w:=w) (k q hq ⟨off,u,hcell 2 u hu⟩)).trans (hcell j v hv)⟩
end
theorem NatsAt.off2N{w w':World}{lo g:Nat}{A:Option Addr}{ks:List Nat}{T:TypeId}{ys:List Value}{X:CoinsL}{Y:LocksL}(h:NatsAt w lo A ks)(hg:At w g T 2 ys)(hs:StAt w ys X Y)(hw:w.grownBy w' (some g)):NatsAt w' lo A ks:=
 h.off (fun q hq hn=>by
  obtain⟨q',off,x,h1,h2,h3⟩:=h.first hn
  rw[h1]at hq;obtain rfl:q'=q:=Option.some.inj hq;refine hw.block q' h2 (fun e=>?_);obtain rfl:q'=g:=Option.some.inj e;have h5:=hg.blk.cell off;rw[h3]at h5;obtain⟨A1,n1,c1,A2,n2,c2,rfl,_⟩:=hs
  match off,h5 with
  | 0,h5=>cases h5
  | 1,h5=>cases h5
  | k+2,h5=>cases h5) hw.size
theorem rinputs_st {tv sv : List Value} {t : Txn} (n me : Int) {X : CoinsL} {Y : LocksL} (w : World) (h : TxAt w tv t) (hs : StAt w sv X Y) (hX : X.length ≤ 1000000) (hY : Y.length ≤ 1000000) :
  Calls Tryz.prog 26 #[.agg sv.toArray,.agg tv.toArray,.int .i64 n,.int .i64 me] w fun e w'=>e=.returned (.tuple #[.int .u64 (inputsR X Y t n me).1,.int .i64 (inputsR X Y t n me).2])∧Grow w w':=by
 obtain⟨A,n1,c,A2,n2,c2,rfl,h2,h3⟩:=hs;exact rinputs_any n me w h h2 h3 (by rw[← h2.2.2];exact hX) (by rw[← h3.2.2];exact hY)
end Go.Proofs.YtnnjjbkdjkjnpaaGreatDoor
namespace Go.Proofs.YtnnjjbkdjkjnpaaGreatDoor
open Go.RowKit Go.Shelf
theorem cutC_len(X:CoinsL)(p:PtK):(cutC X p).length≤X.length:=List.length_filter_le _ _
def RetSt(w0:World)(X:CoinsL)(Y:LocksL)(r:Int)(er:Int)(e:Ending)(w':World):Prop:=∃sv',e=.returned (.tuple #[.agg sv'.toArray,.int .u64 r,.int .i64 er])∧StAt w' sv' X Y∧Grow w0 w'
theorem rpay_any {tv sv : List Value} {t : Txn} (n me : Int) {X : CoinsL} {Y : LocksL} (w : World) (h : TxAt w tv t) (hs : StAt w sv X Y) (hX : X.length ≤ 1000000) (hY : Y.length ≤ 1000000) :
  Calls Tryz.prog 27 #[.agg sv.toArray,.agg tv.toArray,.int .i64 n,.int .i64 me] w (RetSt w (payX X Y t n me) Y (inputsR X Y t n me).1 (inputsR X Y t n me).2):=by
 have HTC:=kp h.cl;have HSC:=kp hs.cl;have HIP:=kp (fun w' (k:Grow w w')=>rinputs_st n me w' (h.grow k) (hs.grow k) hX hY);have HAT:=kp (fun w' (k:Grow w w')=>rhere_any n me false w' (h.grow k));rw[hereX_false]at HAT;have HS0:=kp hs;have HC0:=kp (stV_cl (A:=none) (n:=0) (c:=0) (A2:=none) (n2:=0) (c2:=0));obtain⟨A,c,l,hv0,hi,hl,hn⟩:=h.ins;have HI:=kp hi;have HL:=kp hl;have HV0:=kp hv0;have HKL:=kp (fun k (hk:k∈hereI t n me)=>hereI_lt hk);have hk16:=hereI_len t n me;have HER:=kp (fun he=>inputs_err (X:=X) (Y:=Y) (t:=t) (n:=n) (me:=me) he);have HPX:=kq (payX X Y t n me=if(inputsR X Y t n me).2≠0 then X else cutsC X (ptsOf t.ins (hereI t n me))) rfl;obtain⟨ks,hks⟩:=xe (hereI t n me);rw[← hks]at HKL HAT hk16 HPX;obtain⟨XF,hXF⟩:=xe (payX X Y t n me);rw[← hXF]at HPX ⊢;obtain⟨R,hR⟩:=xe (inputsR X Y t n me);rw[← hR]at HIP HER HPX ⊢;obtain⟨w_,hw⟩:=xe w;have HB:=kq (Below w.heap.size w w_) (by rw[hw];exact Below.refl _ _)
 suffices H:Calls Tryz.prog 27 #[.agg sv.toArray,.agg tv.toArray,.int .i64 n,.int .i64 me] w_ (RetSt w XF Y R.1 R.2) by rw[hw]at H;exact H
 clear hw h hs hv0 hi hl hR hks hXF;obtain⟨ra,rb⟩:=R
 go_enter Tryz.func27,Tryz.ntmps27
 go_wp2_with (with_reducible first|refine wpl_box (o:=⟨some 4,_,_,_,_,_⟩) rfl rfl rfl ?_);intro v_ b_ y_ s_;have HX_:=kp (at_mk b_ HSC.o.len);clear b_ s_;have HG_:=kp HB.o.size;replace HB:=kp (HB.o.grow' y_);generalize x_:w_.heap.size=g4 at HX_ HG_ ⊢;clear x_;have HT_g:=HG_;clear HG_;have HT:=HX_;clear y_ HX_;try clear w_
 rename World=>w_;go_wp2_with (with_reducible first|refine wpl_box (o:=⟨some 5,_,_,_,_,_⟩) rfl rfl rfl ?_);intro v_ b_ y_ s_;have HX_:=kp (at_mk b_ HTC.o.len);clear b_ s_;have HG_:=kp HB.o.size;have HX_HT:=kp (Nat.ne_of_lt HT.o.lt);replace HB:=kp (HB.o.grow' y_);replace HT:=kp (HT.o.grow y_);generalize x_:w_.heap.size=g5 at HX_ HG_ HX_HT ⊢;clear x_;have HX_g:=HG_;clear HG_;have HX:=HX_;clear y_ HX_;try clear w_
 rename World=>w_;go_wp2_with (with_reducible first|refine wpl_alloc (o:=⟨some 8,_,_,_,_,_⟩) rfl rfl zero_state ?_);intro v_ b_ y_ s_;have HX_:=kp (at_mk b_ len_state);clear b_ s_;have HG_:=kp HB.o.size;have HQ_HT:=kp (Nat.ne_of_lt HT.o.lt);have HQ_HX:=kp (Nat.ne_of_lt HX.o.lt);replace HB:=kp (HB.o.grow' y_);replace HT:=kp (HT.o.grow y_);replace HX:=kp (HX.o.grow y_);generalize x_:w_.heap.size=g8 at HX_ HG_ HQ_HT HQ_HX ⊢;clear x_;have HQ_g:=HG_;clear HG_;have HQ:=HX_;clear y_ HX_;try clear w_
 rename World=>w_;go_wp2_with (with_reducible first|refine wlb 16 row_state HT.o.blk HT.o.len ?_|refine wlb 17 row_tx HX.o.blk HX.o.len ?_);refine(HIP.o _ HB.o).mono ?_;rintro e w_ ⟨rfl,y_⟩;replace HB:=kp (HB.o.grow' y_);replace HX:=kp (HX.o.grow y_);replace HT:=kp (HT.o.grow y_);replace HQ:=kp (HQ.o.grow y_);clear y_;by_cases hr:rb=0
 case neg =>
  have z1:(rb != 0)=true:=by simpa using hr
  have HE:=kq (XF=X) (by rw[HPX.o,if_pos hr]);have HE1:=kq (ra=0) (HER.o hr);go_wp2_with (with_reducible first|refine wlb 25 row_state HT.o.blk HT.o.len ?_|refine wsb row_state HQ.o.blk HQ.o.len HSC.o.len HSC.o.one ?_);intro v_ b_ g_ s_;have HSF:=kp ((HS0.o.grow HB.o).off2 HQ.o g_);have HB_:=kp (put_below HB.o HQ_g.o g_);have HQ_:=kp (at_mk b_ HSC.o.len);clear b_ g_ s_;go_wp2_with fail;refine ret_c_t_t rfl row_state HQ_.o.blk rfl HQ_.o.len rfl rfl rfl ?_;exact⟨sv,by rw[HE1.o];rfl,by rw[HE.o];exact HSF.o,HB_.o⟩
 case pos =>
  have HE:=kq (cutsC X (ptsOf t.ins (ks.drop 0))=XF) (by rw[HPX.o,if_neg (fun h=>h hr),List.drop_zero]);subst hr;have z1:((0:Int) != 0)=false:=by decide
  clear HPX HER;go_wp2_with (with_reducible refine wlb 27 row_tx HX.o.blk HX.o.len ?_);refine(HAT.o _ HB.o).mono ?_;rintro e v_ ⟨A3,c3,rfl,ha,y_⟩;have HI0:=kq (∃sv',StAt v_ sv' X Y∧At v_ g4 37 2 sv'∧At v_ g5 27 4 tv∧At v_ g8 37 2 (stV none 0 0 none 0 0)∧NatsAt v_ w.heap.size A3 ks∧Below w.heap.size w v_∧X.length≤1000000∧cutsC X (ptsOf t.ins (ks.drop 0))=XF) ⟨sv,HS0.o.grow (HB.o.grow' y_),HT.o.grow y_,HX.o.grow y_,HQ.o.grow y_,ha.less HB.o.size,HB.o.grow' y_,hX,HE.o⟩;clear ha y_ HT HX HQ HB HE HS0 HAT HIP HSC;try clear w_
  rename World=>w_;go_wp2_with fail;go_loopw [14] (fun iv wr=>∃(k:Nat),k≤ks.length∧iv=.int .i64 k∧Hid (∃Z sv',StAt wr sv' Z Y∧At wr g4 37 2 sv'∧At wr g5 27 4 tv∧At wr g8 37 2 (stV none 0 0 none 0 0)∧NatsAt wr w.heap.size A3 ks∧Below w.heap.size w wr∧Z.length≤1000000∧cutsC Z (ptsOf t.ins (ks.drop k))=XF)) (fun iv _=>ks.length - (intOf iv).toNat)
  case atStart=>exact⟨0,Nat.zero_le _,rfl,kp ⟨X,HI0.o⟩⟩
  case round =>
   obtain⟨k,hk,rfl,hI⟩:=hrel;clear HI0;obtain⟨Z,sw,hs_,ht_,hx_,hq_,hk_,y_,hz_,hf_⟩:=hI.o;have HS:=kp hs_;have HT:=kp ht_;have HX:=kp hx_;have HQ:=kp hq_;have HK:=kp hk_;have HB:=kp y_;have HZN:=kp hz_;have HF:=kp hf_;clear hI hs_ ht_ hx_ hq_ hk_ y_ hz_ hf_;rename World=>w_;by_cases hlt:k < ks.length
   ·obtain⟨b5,o5,j,hA3,hj,-⟩:=HK.o.at_ hlt;have hjl:=HKL.o j (List.mem_of_getElem? hj);obtain⟨bi,oi,p,rfl,hp,hok,hcc⟩:=HI.o.at_ hjl;have hp2:t.ins[j]? = some p.2:=by rw[← HL.o,List.getElem?_map,hp];rfl
    have hbi:bi < w.heap.size:=World.block_lt_of_cell? w _ (hcc 32 _ (in_at (v:=p.1) hok.2).1);have HBI:=kp hbi;have HST:=kq (cutsC (cutC Z p.2.pt) (ptsOf t.ins (ks.drop (k+1)))=XF) (by rw[← HF.o];exact(cutsC_step hj hp2).symm);have HPO:=kp (in_ok hok.2);have HPC:=kp (ptV_cl HPO.o);have HMP:=kp (fun w' (hb:Below w.heap.size w w')=>show ∀i u,(ptV p.2.pt)[i]? = some u→w'.cell? ⟨bi,oi+j*35+i,none⟩=some u from fun i u hu=>bcell hb (hcc i u (in_pt p.1 p.2 hu)));obtain⟨AC,nC,cC,hs0,hrc⟩:=HS.o.coins;have HC1:=kp hs0;have HTK:=kp (fun w' (k:Grow w_ w')=>rtake19_any (c:=cC) p.2.pt w' (hrc.grow k) HPO.o (by rw[← hrc.2.2];exact HZN.o));unfold ptA at HTK;obtain⟨es,hes⟩:=xe (ptV p.2.pt);rw[← hes]at HPC HMP HTK;obtain⟨pp,hpp⟩:=xe p.2.pt;rw[← hpp]at HST HTK;have HJ:=kp hj;have q1:((j:Int) < (t.ins.length:Int)):=by omega
    subst hA3;clear hj hp hok hcc hp2 HF HPO hes hpp hbi hs0 hrc;obtain⟨wq,hwq⟩:=xe w_;rw[← hwq]at HTK HB;have HB1:=HB;clear HB;have HB:=kq (Below wq.heap.size wq w_) (by rw[hwq];exact Below.refl _ _);clear hwq;go_wp2_with fail;try go_wp2_with fail
    repeat' (first|(with_reducible refine wpp (id:=8) Grow [0,2,0,2,0,0,0,2,0,0,2,3,0,3] (.get 0 (.get 1 (.get 2 (.get 3 (.get 4 (.get 5 (.get 6 (.get 7 (.get 8 (.get 9 (.get 10 (.act 11 (.get 12 (.act 13 .done)))))))))))))) Grow.refl Grow.trans ?_)|go_values|go_skip|go_guarded|go_step|go_upon|go_back)
    intro w_ hd_;have y_:=hd_.grow;replace HB:=kp (HB.o.grow' y_);replace HX:=kp (HX.o.grow y_);replace HT:=kp (HT.o.grow y_);replace HK:=kp (HK.o.grow y_);replace HQ:=kp (HQ.o.grow y_);replace HS:=kp (HS.o.grow y_);clear y_ hd_;have c0:=HX.o.blk.at_ HV0.o;have c1:=HT.o.blk.at_ HC1.o;obtain⟨b6,o6,j2,hA2,hj2,c5⟩:=HK.o.at_ hlt;rw[HJ.o]at hj2;obtain rfl:=Option.some.inj hj2;obtain⟨rfl,rfl⟩:b6=b5∧o6=o5:=by injection hA2 with h;injection h with h1 h2;exact⟨h1.symm,h2.symm⟩
    repeat (first|(refine plc (fun K hK=>?_);go_simp;refine hK _ _ ?_;clear hK K)|(refine pls (fun K hK=>?_);go_simp;refine hK _ _ ?_;clear hK K)|(refine psa (fun K hK=>?_);go_simp;refine hK _ _ ?_;clear hK K)|(refine pl_load rfl rfl (by first|exact wanted_none rfl|(go_simp;done)|rfl) rfl (by first|rfl|(go_simp;rfl)) (by kernel_rfl) (by first|exact c0|exact c1|exact c5) (fun K hK=>?_);go_simp;refine hK _ _ ?_;clear hK K)|(refine pl_loadnow rfl rfl (by first|exact wanted_none rfl|(go_simp;done)|rfl) rfl (by first|rfl|(go_simp;rfl)) (by kernel_rfl) (by first|exact c0|exact c1|exact c5) (fun K hK=>?_);go_simp;refine hK _ _ ?_;clear hK K))
    have HMQ:=kp (HMP.o _ (HB1.o.grow' HB.o));have HBQ:=kq (bi < w_.heap.size) (Nat.lt_of_lt_of_le HBI.o (HB1.o.grow' HB.o).size);refine pl_loadm rfl (by decide) (by exact wanted_none rfl) rfl row_point HMQ.o HBQ.o (by first|rfl|(go_simp;done)|rfl) HPC.o.len (fun K hK=>?_);go_simp;refine hK _ _ ?_;clear hK K;repeat ((first|refine plc (fun K hK=>?_)|refine pls (fun K hK=>?_)|refine psa (fun K hK=>?_));go_simp;refine hK _ _ ?_;clear hK K)
    clear c0 c1 c5 HMQ HBQ hA2 hj2;refine pl_act rfl (by first|exact wanted_none rfl|(go_simp;done)|rfl) (fun K hK=>?_);go_wp2_with fail;refine(HTK.o w_ HB.o).mono ?_;rintro e v_ ⟨A9,n9,c9,rfl,hx9,y_⟩;have HX9:=kp hx9;go_wp2_with fail;refine hK _ _ (fun h=>by first|exact y_|cases h) ?_;clear hK K hx9 HTK;replace HX:=kp (HX.o.grow y_);replace HT:=kp (HT.o.grow y_);replace HK:=kp (HK.o.grow y_);replace HQ:=kp (HQ.o.grow y_);replace HS:=kp (HS.o.grow y_);replace HB:=kp (HB1.o.grow' (Grow.trans _ _ _ HB.o y_));clear y_ HB1;try clear w_
    try clear wq
    rename World=>w_;repeat ((first|refine plc (fun K hK=>?_)|refine pls (fun K hK=>?_)|refine psa (fun K hK=>?_));go_simp;refine hK _ _ ?_;clear hK K)
    refine pl_act rfl (by first|exact wanted_none rfl|(go_simp;done)|rfl) (fun K hK=>?_);show wpList _ _ _ [⟨none,.store _ _ _,_,_,_,_⟩] _ _
    go_wp2_with (first|(refine wpl_store1 (o:=⟨none,.store _ _ _,_,_,_,_⟩) rfl rfl HT.o.blk rfl rfl (by kernel_rfl) rfl rfl (by have:=HT.o.len;omega) ?_));intro v_ b_ g_ s_;have HT_:=kq (At v_ g4 37 2 (sw.set 0 (.slice A9 n9 c9))) (at_mk b_ ((List.length_set ..).trans HT.o.len));have HS_:=kq (StAt v_ (sw.set 0 (.slice A9 n9 c9)) (cutC Z pp) Y) ((HS.o.setC HX9.o).off2 HT.o g_);have HX_:=kp (At.off HX.o g_ HX_HT.o.symm);have HQ_:=kp (At.off HQ.o g_ HQ_HT.o.symm);have HK_:=kp (HK.o.off2N HT.o HS.o g_);have HB_:=kp (put_below HB.o HT_g.o g_);clear b_ g_ s_ HT HS HX HQ HK HB HX9;go_wp2_with fail;refine hK _ _ (fun h=>by cases h) ?_;clear hK K;try clear w_
    rename World=>w_;repeat ((first|refine plc (fun K hK=>?_)|refine pls (fun K hK=>?_)|refine psa (fun K hK=>?_));go_simp;refine hK _ _ ?_;clear hK K)
    refine pl_done ?_;have HLN:=kp (Nat.le_trans (cutC_len Z pp) HZN.o);go_wp2_with fail;go_roundw
    case rel=>exact⟨k+1,by omega,by go_num,kp ⟨_,_,HS_.o,HT_.o,HX_.o,HQ_.o,HK_.o,HB_.o,HLN.o,HST.o⟩⟩
    case measure=>simp [intOf];omega
   ·obtain rfl:k=ks.length:=by omega
    have HE:=kq (Z=XF) (by rw[← HF.o,List.drop_length];rfl);have HSC:=kp HS.o.cl;go_wp2_with (with_reducible first|refine wlb 50 row_state HT.o.blk HT.o.len ?_|refine wsb row_state HQ.o.blk HQ.o.len HSC.o.len HSC.o.one ?_);intro v_ b_ g_ s_;have HSF:=kp (HS.o.off2 HQ.o g_);have HB_:=kp (put_below HB.o HQ_g.o g_);have HQ_:=kp (at_mk b_ HSC.o.len);clear b_ g_ s_;go_wp2_with fail;refine ret_c_t_t rfl row_state HQ_.o.blk rfl HQ_.o.len rfl rfl rfl ?_;exact⟨sw,rfl,by rw[← HE.o];exact HSF.o,HB_.o⟩
end Go.Proofs.YtnnjjbkdjkjnpaaGreatDoor

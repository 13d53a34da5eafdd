/- The contract of coins.Put1 where other blocks are to stay too. Printed by mkputq.py. -/
import Derived.Test.YtnnjjbkdjkjnpaaGreatDoorSpendPlaysRb38
set_option linter.unusedSimpArgs false
set_option linter.unusedVariables false
set_option maxRecDepth 100000
set_option maxHeartbeats 16000000
namespace Go.Proofs.YtnnjjbkdjkjnpaaGreatDoor
open Go.RowKit
def KRq(K0:Nat→Prop)(z1 z2:Nat):Nat→Prop:=fun j=>K0 j∨(z1≤j∧j < z2)
def KSq(K0:Nat→Prop)(z1 z2 z3 z4:Nat):Nat→Prop:=fun j=>KRq K0 z1 z2 j∨(z3≤j∧j < z4)
theorem PenAt.ltK{w:World}{K:Nat→Prop}{g:Nat}{xs:List UInt8}(h:PenAt w K g xs):∀k,K k→k < w.heap.size:=by
 obtain⟨A,c,h1,h2,h3,h4⟩:=h;exact fun k hk=>(h3 k hk).1
theorem cputq_any (g b gp : Nat) (X L : CoinsL) (s : Int) (K0 : Nat → Prop) (w : World) (hlow : ∀ j, j < gp → K0 j) (h : CoinsAt w g b L s) (hr : RelC X L s) (hp : PenAt w K0 gp []) (hg : g < gp) (hb : b < gp) :
  Calls Tryz.prog 47 #[.pointer (some ⟨g,0,none⟩),.pointer (some ⟨gp,0,none⟩)] w fun e w'=>e=.returned (.tuple #[])∧PenAt w' K0 gp (bytesC X)∧Kept K0 w w':=by
 obtain⟨n,hn⟩:=xe L.length;have hn256:n≤256:=by rw[hn];exact hr.len
 have hXn:X.length=n:=by rw[hr.lenX,hn]
 have HPT:=kq (bytesC X=numB n++X.flatMap putAt) (by unfold bytesC;rw[hXn]);have HR:=kp hr;have HP:=kp hp;have HC:=kp h;have HGB:=kq (K0 g∧K0 b) ⟨hlow g hg,hlow b hb⟩;have e0:∀es:Array MapEntry,kvs es=encC L→es.size=n:=fun es h5=>by rw[← kvs_length,h5];simp [encC,hn]
 obtain⟨es0,clock0,h3,h4,h5⟩:=h.map;have e1:=e0 es0 h5;have hl:=fun ty=>run_len_map w 88 ty b es0 clock0 Tryz.underlying88 h3
 simp only [e1]at hl;have c1:w.cell? ⟨g,0,none⟩=some (.map (some b)):=h.blk.at_ rfl;have HNE:=kp hn;clear h hr hp h3 h4 h5 e0 e1 hn;have q1:=conv_u64' (n:=n) (by omega);obtain⟨out,hout⟩:=xe (bytesC X);rw[← hout]at HPT ⊢;clear hout
 go_enter Tryz.func47,Tryz.ntmps47
 go_wp2_with fail;refine(num_any gp n K0 [] _ HP.o (by simp) (by omega)).mono ?_;rintro e w1 ⟨rfl,hp_,hk_⟩;have HP1:=kq (PenAt w1 K0 gp (numB n)) hp_;have HK1:=kp hk_;have HC1:=kp (HC.o.keptK hk_ HGB.o.1 HGB.o.2);clear hp_ hk_ HP HC hl c1 q1;have HALL:=kp (call_any g b L s w1 HC1.o (by rw[← HNE.o];omega));go_wp2_with fail;refine HALL.o.mono ?_;rintro e w2 ⟨v,ks,rfl,hperm,⟨ss,hss⟩,hrow,hb2⟩;have hkx:=HR.o.all hperm hss;have hkl:ks.length=n:=by have:=congrArg List.length hkx;rw[List.length_map,List.length_map,hXn]at this;exact this
 obtain⟨A,c,rfl⟩:=own_slice hrow;rw[hkl]at hrow;have HKX:=kp hkx;obtain⟨z1,hz1⟩:=xe w1.heap.size;obtain⟨z2,hz2⟩:=xe w2.heap.size;rw[← hz1]at hrow;have HV:=kq (OwnP w2 z1 A n c ks) hrow;have HVB:=kq (∀q,A.map Addr.block=some q→KRq K0 z1 z2 q) (fun q hq=>.inr ⟨own_from hrow q hq,by rw[hz2];exact own_lt hrow q hq⟩);have HGZ:=kq (gp < z1) (by rw[hz1];exact HP1.o.lt)
 have HP2:=kp (show PenAt w2 (KRq K0 z1 z2) gp (numB n) from HP1.o.more hb2 (fun j hj=>by
  rcases hj with h|h
  ·exact .inl h
  ·exact .inr (by rw[← hz1,← hz2];exact h)))
 have HK2:=kq (Kept K0 w w2) (HK1.o.trans (Kept.of_grow hb2 (fun j hj=>HP1.o.ltK j hj)));have HKLT:=kq (∀j,K0 j→j < z1) (fun j hj=>by rw[hz1];exact HP1.o.ltK j hj);have HC2:=kp (HC1.o.call hb2);have HZ2:=kq (z2=w2.heap.size) hz2;have HZ12:=kq (z1≤z2) (by rw[hz1,hz2];exact hb2.size);rw[hkl];clear hperm hss hrow hb2 hkx hkl hz1 hz2 HP1 HK1 HC1 HALL;have HQ0:=kq (numB n=numB n++(X.take 0).flatMap putAt) (by simp);have HKQ0:=kp (Kept.refl (KRq K0 z1 z2) w2);go_wp2_with fail;go_loopw [18] (fun iv wr=>∃k:Nat,k≤n∧iv=.int .i64 k∧Hid (∃acc:List UInt8,PenAt wr (KRq K0 z1 z2) gp acc∧acc.length≤9+k*82∧acc=numB n++(X.take k).flatMap putAt∧Kept (KRq K0 z1 z2) w2 wr)) (fun iv _=>n - (intOf iv).toNat)
 case atStart=>exact⟨0,by omega,rfl,kp ⟨numB n,HP2.o,by have:=numB_le (n:=n) (by omega);omega,HQ0.o,HKQ0.o⟩⟩
 case round =>
  obtain⟨k,hk,rfl,hI⟩:=hrel;clear HP2 HQ0 HKQ0;obtain⟨acc,hpn,hal,hac,hkq⟩:=hI.o;have HP:=kp hpn;have HAC:=kp hac;have HKQ:=kp hkq;clear hI hpn hac hkq;rename World=>w_;by_cases hlt:k < n
  ·obtain⟨x,hx⟩:∃x,ks[k]? = some x:=⟨_,List.getElem?_eq_getElem (by have:=HV.o.len;omega)⟩;obtain⟨p,hp⟩:∃p,X[k]? = some p:=⟨_,List.getElem?_eq_getElem (by omega)⟩
   have hxp:x.1=p.1:=by
    have h1:=congrArg (fun l=>l[k]?) HKX.o;simp only [List.getElem?_map,hx,hp,Option.map_some]at h1;exact Option.some.inj h1
   have hmem:=List.mem_of_getElem? hp;have hok:=HR.o.okX p hmem;have HSN:=kp (fm_snocR putAt hp);have hix:=HR.o.ixX p hmem;have hlk:lookC L p.1=some p.2:=lookC_eq HR.o.ok.2 (HR.o.perm.mem_iff.1 hmem);obtain⟨ix,hix1,hixl,hix2⟩:=natI (m:=15) hix.1 hix.2;obtain⟨am,ham,haml,ham2⟩:=natU hok.2.2.1 hok.2.2.2;obtain⟨tx,htx⟩:=xe p.1.1;obtain⟨ow,how⟩:=xe p.2.1;have HPI:=kq (putAt p=tx++numB ix++ow++numB am) (by unfold putAt;rw[hix2,ham2,← htx,← how]);have HDT:=kq (Dig (tx.map B) tx) ⟨rfl,by rw[htx];exact hok.1.1⟩;have HDO:=kq (Dig (ow.map B) ow) ⟨rfl,by rw[how];exact hok.2.1⟩;have HPC:=kp (ptV_cl hok.1);have HCC:=kp (coinV_cl hok.2);have HE32:=kq ((ptV p.1)[32]? = some (.int .i64 (ix:Int))) (by rw[ptV_ix hok.1.1,hix1]);have HC32:=kq ((coinV p.2)[32]? = some (.int .u64 (am:Int))) (by rw[coinV_amt hok.2,ham])
   have HET:=kp (show ∀j u,(tx.map B)[j]? = some u→(ptV p.1)[0+j]? = some u from fun j u hu=>by
    rw[Nat.zero_add];unfold ptV;rw[← htx,List.getElem?_append_left (List.getElem?_eq_some_iff.1 hu).1];exact hu)
   have HEO:=kp (show ∀j u,(ow.map B)[j]? = some u→(coinV p.2)[0+j]? = some u from fun j u hu=>by
    rw[Nat.zero_add];unfold coinV;rw[← how,List.getElem?_append_left (List.getElem?_eq_some_iff.1 hu).1];exact hu)
   have HLK:=kp (show ∀w',CoinsAt w' g b L s→(Instr.lookup 88 (.map (some b)) (.agg (ptV p.1).toArray) false).run Tryz.prog w'=.ok (.agg (coinV p.2).toArray) w' from fun w' h'=>by
    obtain⟨c',_,e2,h2⟩:=h'.look0 hok.1;rw[hlk]at e2;have:c'=p.2:=e2;rw[this]at h2
    exact h2)
   obtain⟨g0,cur,hA,_,_,_,_,hbk,_,_⟩:=HV.o.form (by omega);subst hA
   have HMC:=kp (show ∀j u,(ptV p.1)[j]? = some u→w_.cell? ⟨g0,k*33+j,none⟩=some u from fun j u hu=>by
    have h1:=HV.o.at_ hx j u (by unfold encPt;rw[hxp];exact hu);rw[hbk.cell]at h1
    exact(HKQ.o.blk hbk (HVB.o g0 rfl)).at_ h1)
   obtain⟨es,hes⟩:=xe (ptV p.1);obtain⟨cs,hcs⟩:=xe (coinV p.2);rw[← hes]at HPC HE32 HET HLK HMC;rw[← hcs]at HCC HC32 HEO HLK;obtain⟨tb,htb⟩:=xe (tx.map B);rw[← htb]at HDT HET;obtain⟨ob,hob⟩:=xe (ow.map B);rw[← hob]at HDO HEO;clear hx hp hxp hmem hok hix hlk hix1 hix2 ham ham2 htx how hes hcs htb hob hbk;have hlix:=numB_le (n:=ix) (by omega);have hlam:=numB_le (n:=am) (by omega);have htl:tx.length=32:=HDT.o.2;have hol:ow.length=32:=HDO.o.2;have HCW:=kq (CoinsAt w_ g b L s) (HC2.o.keptK HKQ.o (.inl (hlow g hg)) (.inl (hlow b hb)));have hwz:z2≤w_.heap.size:=by rw[HZ2.o];exact HKQ.o.size
   have HWZ:=kp hwz;obtain⟨wq,hwq⟩:=xe w_;have HB:=kq (Below wq.heap.size wq w_) (by rw[hwq];exact Below.refl _ _);rw[← hwq]at HP HKQ HWZ;clear hwq hwz;go_wp2_with (with_reducible first|refine wlm 21 row_point HMC.o HPC.o.len ?_|refine wpl_alloc (o:=⟨some 5,_,_,_,_,_⟩) rfl rfl zero_point ?_);intro w1_ hb1_ hbw1_ hsz1_;have HB1_:=kp (at_mk hb1_ len_point);have HBW1_:=kp hbw1_;have HZ1_:=kp hsz1_;clear hb1_ hbw1_ hsz1_;go_wp2_with (with_reducible refine wsb row_point HB1_.o.blk HB1_.o.len HPC.o.len HPC.o.one ?_);intro v_ b_ g_ s_;have HG_:=kp HB.o.size;have y_:=var_grow HBW1_.o HZ1_.o g_;have HX_:=kp (at_mk b_ HPC.o.len);clear b_ g_ s_ HB1_ HBW1_ HZ1_;replace HB:=kp (HB.o.grow' y_);replace HCW:=kp (HCW.o.grow y_);generalize x_:w_.heap.size=g5 at HX_ HG_ ⊢;clear x_;have HE:=HX_;clear y_ HX_;clear w1_;try clear w_
   rename World=>w_;have HE_g:=HG_;clear HG_;clear HMC;have HEG:=kq (wq.heap.size≤g5∧g5 < w_.heap.size) ⟨HE_g.o,HE.o.lt⟩;obtain⟨g6,hg6⟩:=xe w_.heap.size;go_wp2_with fail;repeat' (first|(with_reducible refine wp_phase (id:=4) (newC w_ 77 (coinV noCoin) cs) [6,7] [(0,2),(0,2),(0,2),(0,2),(0,2),(0,2),(0,0),(1,1)] (by kernel_rfl) (by kernel_rfl) ?_ ?_)|go_values|go_skip|go_guarded|go_step|go_upon|go_back)
   ·exact newC.start
   have HF:=kq (∀k w',newC w_ 77 (coinV noCoin) cs k w'→w'.cell? ⟨g,0,none⟩=some (.map (some b))) (fun k w' h=>(HCW.o.call (newC.low k w' h)).blk.at_ rfl);have HL:=kq (∀k w',newC w_ 77 (coinV noCoin) cs k w'→(Instr.lookup 88 (.map (some b)) (.agg es.toArray) false).run Tryz.prog w'=.ok (.agg cs.toArray) w') (fun k w' h=>HLK.o w' (HCW.o.call (newC.low k w' h)));have HX1:=kq (∀k w',newC w_ 77 (coinV noCoin) cs k w'→Blk w' g5 69 es) (fun k w' h=>HE.o.blk.call (newC.low k w' h));refine ph_value rfl (by first|rfl|go_simp) (fun k_ _ _ w_ hC_=>by first|(go_simp;rfl)|(go_simp;done)|rfl) (fun K hK=>?_);go_simp;refine hK _ ?_;clear hK K;refine ph_value rfl (by first|rfl|go_simp) (fun k_ _ _ w_ hC_=>by first|(go_simp;rfl)|(go_simp;done)|rfl) (fun K hK=>?_);go_simp;refine hK _ ?_;clear hK K;refine ph_value rfl (by first|rfl|go_simp) (fun k_ _ _ w_ hC_=>by first|(go_simp;rfl)|(go_simp;done)|rfl) (fun K hK=>?_);go_simp;refine hK _ ?_;clear hK K;refine ph_value rfl (by first|rfl|go_simp) (fun k_ _ _ w_ hC_=>by have c1:=HF.o _ _ hC_;first|(go_simp;rfl)|(go_simp;done)|rfl) (fun K hK=>?_);go_simp;refine hK _ ?_;clear hK K;refine ph_load rfl rfl rfl row_point (fun k _ _ w h=>HX1.o k w h) rfl HPC.o.len ?_
   (intro K hK;go_simp;refine hK _ ?_;clear hK K)
   refine ph_value rfl (by first|rfl|go_simp) (fun k_ _ _ w_ hC_=>by have c1:=HL.o _ _ hC_;first|(go_simp;rfl)|(go_simp;done)|rfl) (fun K hK=>?_);go_simp;refine hK _ ?_;clear hK K;refine ph_alloc 0 rfl rfl rfl rfl rfl zero_coin newC.lay ?_
   (intro K hK;go_simp;refine hK _ ?_;clear hK K)
   refine ph_store 1 rfl rfl rfl rfl rfl row_coin rfl rfl HCC.o.len HCC.o.one (newC.put (coinV_length noCoin_ok)) ?_
   (intro K hK;go_simp;refine hK _ ?_;clear hK K)
   refine ph_nil ?_;intro w3 ⟨hl3,hs3,hx3⟩;rw[← hg6]at hs3 hx3 ⊢;replace HE:=kp (HE.o.grow hl3);have HX:=kq (At w3 g6 77 33 cs) (at_mk hx3 HCC.o.len);replace HB:=kp (HB.o.grow' hl3);obtain⟨z3,hz3⟩:=xe wq.heap.size;obtain⟨z4,hz4⟩:=xe w3.heap.size
   have HKE:=kp (show KSq K0 z1 z2 z3 z4 g5∧KSq K0 z1 z2 z3 z4 g6 by
    have h1:=HEG.o
    refine⟨.inr ⟨by rw[hz3];exact h1.1,by rw[hz4];omega⟩,.inr ⟨by rw[hz3,hg6];omega,by rw[hz4];omega⟩⟩)
   have HPN:=kp (show PenAt w3 (KSq K0 z1 z2 z3 z4) gp acc from HP.o.more HB.o (fun j hj=>by
    rcases hj with h|h
    ·exact .inl h
    ·exact .inr (by rw[← hz3,← hz4];exact h)))
   have HKN:=kp (show Kept (KRq K0 z1 z2) w2 w3 from HKQ.o.trans (Kept.of_grow HB.o (fun j hj=>by
    have h1:=HWZ.o;have h2:=HGZ.o;have h3:=HZ12.o;rcases hj with h|h
    ·have:=HKLT.o j h;omega
    ·omega)))
   clear hl3 hs3 hx3 HF HL HX1 HCW HB HP HKQ HEG hg6 hz3 hz4 HWZ HE_g HLK;try clear w_
   try clear wq
   rename World=>w_;have HMT:=kq (∀j u,tb[j]? = some u→w_.cell? ⟨g5,0+j,none⟩=some u) (fun j u hu=>HE.o.blk.at_ (HET.o j u hu));go_wp2_with (with_reducible refine wlm 30 row_idk HMT.o HDT.o.len ?_);clear HMT;go_wp2_with fail;refine(pid_any gp (KSq K0 z1 z2 z3 z4) acc HDT.o _ HPN.o (by omega)).mono ?_;rintro e v_ ⟨rfl,hp_,hk_⟩;replace HPN:=kp hp_;replace HKN:=kp (HKN.o.trans (hk_.mono (fun j hj=>.inl hj)));replace HE:=kp (at_mk (hk_.blk HE.o.blk HKE.o.1) HE.o.len);replace HX:=kp (at_mk (hk_.blk HX.o.blk HKE.o.2) HX.o.len);clear hp_ hk_;try clear w_
   rename World=>w_;have c1:=HE.o.blk.at_ HE32.o;have q1:=conv_u64' (n:=ix) (by omega);go_wp2_with fail;refine(num_any gp ix (KSq K0 z1 z2 z3 z4) (acc++tx) _ HPN.o (by clear q1;rw[List.length_append];omega) (by omega)).mono ?_;rintro e v_ ⟨rfl,hp_,hk_⟩;replace HPN:=kp hp_;replace HKN:=kp (HKN.o.trans (hk_.mono (fun j hj=>.inl hj)));replace HE:=kp (at_mk (hk_.blk HE.o.blk HKE.o.1) HE.o.len);replace HX:=kp (at_mk (hk_.blk HX.o.blk HKE.o.2) HX.o.len);clear hp_ hk_;try clear w_
   rename World=>w_;clear c1 q1;have HMT:=kq (∀j u,ob[j]? = some u→w_.cell? ⟨g6,0+j,none⟩=some u) (fun j u hu=>HX.o.blk.at_ (HEO.o j u hu));go_wp2_with (with_reducible refine wlm 39 row_idk HMT.o HDO.o.len ?_);clear HMT;go_wp2_with fail;refine(pid_any gp (KSq K0 z1 z2 z3 z4) (acc++tx++numB ix) HDO.o _ HPN.o (by simp only [List.length_append];omega)).mono ?_;rintro e v_ ⟨rfl,hp_,hk_⟩;replace HPN:=kp hp_;replace HKN:=kp (HKN.o.trans (hk_.mono (fun j hj=>.inl hj)));replace HE:=kp (at_mk (hk_.blk HE.o.blk HKE.o.1) HE.o.len);replace HX:=kp (at_mk (hk_.blk HX.o.blk HKE.o.2) HX.o.len);clear hp_ hk_;try clear w_
   rename World=>w_;have c1:=HX.o.blk.at_ HC32.o;go_wp2_with fail;refine(num_any gp am (KSq K0 z1 z2 z3 z4) (acc++tx++numB ix++ow) _ HPN.o (by simp only [List.length_append];omega) (by omega)).mono ?_;rintro e v_ ⟨rfl,hp_,hk_⟩;replace HPN:=kp hp_;replace HKN:=kp (HKN.o.trans (hk_.mono (fun j hj=>.inl hj)));replace HE:=kp (at_mk (hk_.blk HE.o.blk HKE.o.1) HE.o.len);replace HX:=kp (at_mk (hk_.blk HX.o.blk HKE.o.2) HX.o.len);clear hp_ hk_;try clear w_
   rename World=>w_;clear c1;have HREL:=kq (∃acc:List UInt8,PenAt w_ (KRq K0 z1 z2) gp acc∧acc.length≤9+(k+1)*82∧acc=numB n++(X.take (k+1)).flatMap putAt∧Kept (KRq K0 z1 z2) w2 w_) ⟨acc++tx++numB ix++ow++numB am,HPN.o.less (fun j hj=>.inl hj),by simp only [List.length_append];omega,by rw[HSN.o,HPI.o,HAC.o];simp only [List.append_assoc],HKN.o⟩;clear HPN HKN HE HX hlix hlam htl hol;have v1:IntKind.i64.wrap ((k:Int)+1)=(k:Int)+1:=IntWalk.i64_in _ (by omega);go_wp2_with fail;go_roundw
   all_goals clear v1
   case rel=>exact⟨k+1,by omega,by go_num,HREL⟩
   case measure=>simp [intOf];omega
  ·obtain rfl:k=n:=by omega
   have HAE:=kq (acc=out) (by have h:=HAC.o;rw[List.take_of_length_le (by omega)]at h;rw[HPT.o];exact h);have HEND:=kq (PenAt w_ K0 gp out∧Kept K0 w w_) ⟨by rw[← HAE.o];exact HP.o.less (fun j hj=>.inl hj),HK2.o.trans (HKQ.o.mono (fun j hj=>.inl hj))⟩;go_wp2_with fail;refine bodyPost_end (results_none rfl _ _ _) rfl ?_;exact⟨rfl,HEND.o⟩
theorem kputq_any (g b gp : Nat) (X L : LocksL) (s : Int) (K0 : Nat → Prop) (w : World) (hlow : ∀ j, j < gp → K0 j) (h : LocksAt w g b L s) (hr : RelK X L s) (hp : PenAt w K0 gp []) (hg : g < gp) (hb : b < gp) :
  Calls Tryz.prog 48 #[.pointer (some ⟨g,0,none⟩),.pointer (some ⟨gp,0,none⟩)] w fun e w'=>e=.returned (.tuple #[])∧PenAt w' K0 gp (bytesK X)∧Kept K0 w w':=by
 obtain⟨n,hn⟩:=xe L.length;have hn256:n≤64:=by rw[hn];exact hr.len
 have hXn:X.length=n:=by rw[hr.lenX,hn]
 have HPT:=kq (bytesK X=numB n++X.flatMap putAtK) (by unfold bytesK;rw[hXn]);have HR:=kp hr;have HP:=kp hp;have HC:=kp h;have HGB:=kq (K0 g∧K0 b) ⟨hlow g hg,hlow b hb⟩;have e0:∀es:Array MapEntry,kvs es=encL L→es.size=n:=fun es h5=>by rw[← kvs_length,h5];simp [encL,hn]
 obtain⟨es0,clock0,h3,h4,h5⟩:=h.map;have e1:=e0 es0 h5;have hl:=fun ty=>run_len_map w 97 ty b es0 clock0 Tryz.underlying97 h3
 simp only [e1]at hl;have c1:w.cell? ⟨g,0,none⟩=some (.map (some b)):=h.blk.at_ rfl;have HNE:=kp hn;clear h hr hp h3 h4 h5 e0 e1 hn;have q1:=conv_u64' (n:=n) (by omega);obtain⟨out,hout⟩:=xe (bytesK X);rw[← hout]at HPT ⊢;clear hout
 go_enter Tryz.func48,Tryz.ntmps48
 go_wp2_with fail;refine(num_any gp n K0 [] _ HP.o (by simp) (by omega)).mono ?_;rintro e w1 ⟨rfl,hp_,hk_⟩;have HP1:=kq (PenAt w1 K0 gp (numB n)) hp_;have HK1:=kp hk_;have HC1:=kp (HC.o.keptK hk_ HGB.o.1 HGB.o.2);clear hp_ hk_ HP HC hl c1 q1;have HALL:=kp (kall_any g b L s w1 HC1.o (by rw[← HNE.o];omega));go_wp2_with fail;refine HALL.o.mono ?_;rintro e w2 ⟨v,ks,rfl,hperm,⟨ss,hss⟩,hrow,hb2⟩;have hkx:=HR.o.all hperm hss;have hkl:ks.length=n:=by have:=congrArg List.length hkx;rw[List.length_map,List.length_map,hXn]at this;exact this
 obtain⟨A,c,rfl⟩:=own_slice hrow;rw[hkl]at hrow;have HKX:=kp hkx;obtain⟨z1,hz1⟩:=xe w1.heap.size;obtain⟨z2,hz2⟩:=xe w2.heap.size;rw[← hz1]at hrow;have HV:=kq (OwnP w2 z1 A n c ks) hrow;have HVB:=kq (∀q,A.map Addr.block=some q→KRq K0 z1 z2 q) (fun q hq=>.inr ⟨own_from hrow q hq,by rw[hz2];exact own_lt hrow q hq⟩);have HGZ:=kq (gp < z1) (by rw[hz1];exact HP1.o.lt)
 have HP2:=kp (show PenAt w2 (KRq K0 z1 z2) gp (numB n) from HP1.o.more hb2 (fun j hj=>by
  rcases hj with h|h
  ·exact .inl h
  ·exact .inr (by rw[← hz1,← hz2];exact h)))
 have HK2:=kq (Kept K0 w w2) (HK1.o.trans (Kept.of_grow hb2 (fun j hj=>HP1.o.ltK j hj)));have HKLT:=kq (∀j,K0 j→j < z1) (fun j hj=>by rw[hz1];exact HP1.o.ltK j hj);have HC2:=kp (HC1.o.call hb2);have HZ2:=kq (z2=w2.heap.size) hz2;have HZ12:=kq (z1≤z2) (by rw[hz1,hz2];exact hb2.size);rw[hkl];clear hperm hss hrow hb2 hkx hkl hz1 hz2 HP1 HK1 HC1 HALL;have HQ0:=kq (numB n=numB n++(X.take 0).flatMap putAtK) (by simp);have HKQ0:=kp (Kept.refl (KRq K0 z1 z2) w2);go_wp2_with fail;go_loopw [18] (fun iv wr=>∃k:Nat,k≤n∧iv=.int .i64 k∧Hid (∃acc:List UInt8,PenAt wr (KRq K0 z1 z2) gp acc∧acc.length≤9+k*114∧acc=numB n++(X.take k).flatMap putAtK∧Kept (KRq K0 z1 z2) w2 wr)) (fun iv _=>n - (intOf iv).toNat)
 case atStart=>exact⟨0,by omega,rfl,kp ⟨numB n,HP2.o,by have:=numB_le (n:=n) (by omega);omega,HQ0.o,HKQ0.o⟩⟩
 case round =>
  obtain⟨k,hk,rfl,hI⟩:=hrel;clear HP2 HQ0 HKQ0;obtain⟨acc,hpn,hal,hac,hkq⟩:=hI.o;have HP:=kp hpn;have HAC:=kp hac;have HKQ:=kp hkq;clear hI hpn hac hkq;rename World=>w_;by_cases hlt:k < n
  ·obtain⟨x,hx⟩:∃x,ks[k]? = some x:=⟨_,List.getElem?_eq_getElem (by have:=HV.o.len;omega)⟩;obtain⟨p,hp⟩:∃p,X[k]? = some p:=⟨_,List.getElem?_eq_getElem (by omega)⟩
   have hxp:x.1=p.1:=by
    have h1:=congrArg (fun l=>l[k]?) HKX.o;simp only [List.getElem?_map,hx,hp,Option.map_some]at h1;exact Option.some.inj h1
   have hmem:=List.mem_of_getElem? hp;have hok:=HR.o.okX p hmem;have HSN:=kp (fm_snocR putAtK hp);have hix:=HR.o.ixX p hmem;have hlk:lookL L p.1=some p.2:=lookL_eq HR.o.ok.2 (HR.o.perm.mem_iff.1 hmem);obtain⟨ix,hix1,hixl,hix2⟩:=natI (m:=15) hix.1 hix.2;obtain⟨am,ham,haml,ham2⟩:=natU hok.2.1.2.1 hok.2.1.2.2;obtain⟨tx,htx⟩:=xe p.1.1;obtain⟨fo,hfo⟩:=xe p.2.2;obtain⟨ow,how⟩:=xe p.2.1.1;have HPI:=kq (putAtK p=tx++numB ix++fo++ow++numB am) (by unfold putAtK;rw[hix2,ham2,← htx,← hfo,← how]);have HDT:=kq (Dig (tx.map B) tx) ⟨rfl,by rw[htx];exact hok.1.1⟩;have HDO:=kq (Dig (ow.map B) ow) ⟨rfl,by rw[how];exact hok.2.1.1⟩;have HDF:=kq (Dig (fo.map B) fo) ⟨rfl,by rw[hfo];exact hok.2.2⟩;have HPC:=kp (ptV_cl hok.1);have HCC:=kp (lockV_cl hok.2);have HE32:=kq ((ptV p.1)[32]? = some (.int .i64 (ix:Int))) (by rw[ptV_ix hok.1.1,hix1]);have HC32:=kq ((lockV p.2)[32]? = some (.int .u64 (am:Int))) (by rw[lockV_amt hok.2,ham])
   have HET:=kp (show ∀j u,(tx.map B)[j]? = some u→(ptV p.1)[0+j]? = some u from fun j u hu=>by
    rw[Nat.zero_add];unfold ptV;rw[← htx,List.getElem?_append_left (List.getElem?_eq_some_iff.1 hu).1];exact hu)
   have HEO:=kp (show ∀j u,(ow.map B)[j]? = some u→(lockV p.2)[0+j]? = some u from fun j u hu=>lock_coin (by
    unfold coinV;rw[← how,List.getElem?_append_left (List.getElem?_eq_some_iff.1 hu).1];exact hu))
   have HEF:=kq (∀j u,(fo.map B)[j]? = some u→(lockV p.2)[33+j]? = some u) (fun j u hu=>lock_id hok.2 (by rw[← hfo];exact hu))
   have HLK:=kp (show ∀w',LocksAt w' g b L s→(Instr.lookup 97 (.map (some b)) (.agg (ptV p.1).toArray) false).run Tryz.prog w'=.ok (.agg (lockV p.2).toArray) w' from fun w' h'=>by
    obtain⟨c',_,e2,h2⟩:=h'.look0 hok.1;rw[hlk]at e2;have:c'=p.2:=e2;rw[this]at h2
    exact h2)
   obtain⟨g0,cur,hA,_,_,_,_,hbk,_,_⟩:=HV.o.form (by omega);subst hA
   have HMC:=kp (show ∀j u,(ptV p.1)[j]? = some u→w_.cell? ⟨g0,k*33+j,none⟩=some u from fun j u hu=>by
    have h1:=HV.o.at_ hx j u (by unfold encPt;rw[hxp];exact hu);rw[hbk.cell]at h1
    exact(HKQ.o.blk hbk (HVB.o g0 rfl)).at_ h1)
   obtain⟨es,hes⟩:=xe (ptV p.1);obtain⟨cs,hcs⟩:=xe (lockV p.2);rw[← hes]at HPC HE32 HET HLK HMC;rw[← hcs]at HCC HC32 HEO HEF HLK;obtain⟨tb,htb⟩:=xe (tx.map B);rw[← htb]at HDT HET;obtain⟨ob,hob⟩:=xe (ow.map B);rw[← hob]at HDO HEO;obtain⟨fb,hfb⟩:=xe (fo.map B);rw[← hfb]at HDF HEF;clear hx hp hxp hmem hok hix hlk hix1 hix2 ham ham2 htx how hfo hes hcs htb hob hfb hbk;have hlix:=numB_le (n:=ix) (by omega);have hlam:=numB_le (n:=am) (by omega);have htl:tx.length=32:=HDT.o.2;have hol:ow.length=32:=HDO.o.2;have hfl:fo.length=32:=HDF.o.2;have HCW:=kq (LocksAt w_ g b L s) (HC2.o.keptK HKQ.o (.inl (hlow g hg)) (.inl (hlow b hb)));have hwz:z2≤w_.heap.size:=by rw[HZ2.o];exact HKQ.o.size
   have HWZ:=kp hwz;obtain⟨wq,hwq⟩:=xe w_;have HB:=kq (Below wq.heap.size wq w_) (by rw[hwq];exact Below.refl _ _);rw[← hwq]at HP HKQ HWZ;clear hwq hwz;go_wp2_with (with_reducible first|refine wlm 21 row_point HMC.o HPC.o.len ?_|refine wpl_alloc (o:=⟨some 5,_,_,_,_,_⟩) rfl rfl zero_point ?_);intro w1_ hb1_ hbw1_ hsz1_;have HB1_:=kp (at_mk hb1_ len_point);have HBW1_:=kp hbw1_;have HZ1_:=kp hsz1_;clear hb1_ hbw1_ hsz1_;go_wp2_with (with_reducible refine wsb row_point HB1_.o.blk HB1_.o.len HPC.o.len HPC.o.one ?_);intro v_ b_ g_ s_;have HG_:=kp HB.o.size;have y_:=var_grow HBW1_.o HZ1_.o g_;have HX_:=kp (at_mk b_ HPC.o.len);clear b_ g_ s_ HB1_ HBW1_ HZ1_;replace HB:=kp (HB.o.grow' y_);replace HCW:=kp (HCW.o.grow y_);generalize x_:w_.heap.size=g5 at HX_ HG_ ⊢;clear x_;have HE:=HX_;clear y_ HX_;clear w1_;try clear w_
   rename World=>w_;have HE_g:=HG_;clear HG_;clear HMC;have HEG:=kq (wq.heap.size≤g5∧g5 < w_.heap.size) ⟨HE_g.o,HE.o.lt⟩;obtain⟨g6,hg6⟩:=xe w_.heap.size;go_wp2_with fail;repeat' (first|(with_reducible refine wp_phase (id:=4) (newC w_ 118 (lockV noLock) cs) [6,7] [(0,2),(0,2),(0,2),(0,2),(0,2),(0,2),(0,0),(1,1)] (by kernel_rfl) (by kernel_rfl) ?_ ?_)|go_values|go_skip|go_guarded|go_step|go_upon|go_back)
   ·exact newC.start
   have HF:=kq (∀k w',newC w_ 118 (lockV noLock) cs k w'→w'.cell? ⟨g,0,none⟩=some (.map (some b))) (fun k w' h=>(HCW.o.call (newC.low k w' h)).blk.at_ rfl);have HL:=kq (∀k w',newC w_ 118 (lockV noLock) cs k w'→(Instr.lookup 97 (.map (some b)) (.agg es.toArray) false).run Tryz.prog w'=.ok (.agg cs.toArray) w') (fun k w' h=>HLK.o w' (HCW.o.call (newC.low k w' h)));have HX1:=kq (∀k w',newC w_ 118 (lockV noLock) cs k w'→Blk w' g5 69 es) (fun k w' h=>HE.o.blk.call (newC.low k w' h));refine ph_value rfl (by first|rfl|go_simp) (fun k_ _ _ w_ hC_=>by first|(go_simp;rfl)|(go_simp;done)|rfl) (fun K hK=>?_);go_simp;refine hK _ ?_;clear hK K;refine ph_value rfl (by first|rfl|go_simp) (fun k_ _ _ w_ hC_=>by first|(go_simp;rfl)|(go_simp;done)|rfl) (fun K hK=>?_);go_simp;refine hK _ ?_;clear hK K;refine ph_value rfl (by first|rfl|go_simp) (fun k_ _ _ w_ hC_=>by first|(go_simp;rfl)|(go_simp;done)|rfl) (fun K hK=>?_);go_simp;refine hK _ ?_;clear hK K;refine ph_value rfl (by first|rfl|go_simp) (fun k_ _ _ w_ hC_=>by have c1:=HF.o _ _ hC_;first|(go_simp;rfl)|(go_simp;done)|rfl) (fun K hK=>?_);go_simp;refine hK _ ?_;clear hK K;refine ph_load rfl rfl rfl row_point (fun k _ _ w h=>HX1.o k w h) rfl HPC.o.len ?_
   (intro K hK;go_simp;refine hK _ ?_;clear hK K)
   refine ph_value rfl (by first|rfl|go_simp) (fun k_ _ _ w_ hC_=>by have c1:=HL.o _ _ hC_;first|(go_simp;rfl)|(go_simp;done)|rfl) (fun K hK=>?_);go_simp;refine hK _ ?_;clear hK K;refine ph_alloc 0 rfl rfl rfl rfl rfl zero_lock newC.lay ?_
   (intro K hK;go_simp;refine hK _ ?_;clear hK K)
   refine ph_store 1 rfl rfl rfl rfl rfl row_lock rfl rfl HCC.o.len HCC.o.one (newC.put (lockV_length noLock_ok)) ?_
   (intro K hK;go_simp;refine hK _ ?_;clear hK K)
   refine ph_nil ?_;intro w3 ⟨hl3,hs3,hx3⟩;rw[← hg6]at hs3 hx3 ⊢;replace HE:=kp (HE.o.grow hl3);have HX:=kq (At w3 g6 118 65 cs) (at_mk hx3 HCC.o.len);replace HB:=kp (HB.o.grow' hl3);obtain⟨z3,hz3⟩:=xe wq.heap.size;obtain⟨z4,hz4⟩:=xe w3.heap.size
   have HKE:=kp (show KSq K0 z1 z2 z3 z4 g5∧KSq K0 z1 z2 z3 z4 g6 by
    have h1:=HEG.o
    refine⟨.inr ⟨by rw[hz3];exact h1.1,by rw[hz4];omega⟩,.inr ⟨by rw[hz3,hg6];omega,by rw[hz4];omega⟩⟩)
   have HPN:=kp (show PenAt w3 (KSq K0 z1 z2 z3 z4) gp acc from HP.o.more HB.o (fun j hj=>by
    rcases hj with h|h
    ·exact .inl h
    ·exact .inr (by rw[← hz3,← hz4];exact h)))
   have HKN:=kp (show Kept (KRq K0 z1 z2) w2 w3 from HKQ.o.trans (Kept.of_grow HB.o (fun j hj=>by
    have h1:=HWZ.o;have h2:=HGZ.o;have h3:=HZ12.o;rcases hj with h|h
    ·have:=HKLT.o j h;omega
    ·omega)))
   clear hl3 hs3 hx3 HF HL HX1 HCW HB HP HKQ HEG hg6 hz3 hz4 HWZ HE_g HLK;try clear w_
   try clear wq
   rename World=>w_;have HMT:=kq (∀j u,tb[j]? = some u→w_.cell? ⟨g5,0+j,none⟩=some u) (fun j u hu=>HE.o.blk.at_ (HET.o j u hu));go_wp2_with (with_reducible refine wlm 30 row_idk HMT.o HDT.o.len ?_);clear HMT;go_wp2_with fail;refine(pid_any gp (KSq K0 z1 z2 z3 z4) acc HDT.o _ HPN.o (by omega)).mono ?_;rintro e v_ ⟨rfl,hp_,hk_⟩;replace HPN:=kp hp_;replace HKN:=kp (HKN.o.trans (hk_.mono (fun j hj=>.inl hj)));replace HE:=kp (at_mk (hk_.blk HE.o.blk HKE.o.1) HE.o.len);replace HX:=kp (at_mk (hk_.blk HX.o.blk HKE.o.2) HX.o.len);clear hp_ hk_;try clear w_
   rename World=>w_;have c1:=HE.o.blk.at_ HE32.o;have q1:=conv_u64' (n:=ix) (by omega);go_wp2_with fail;refine(num_any gp ix (KSq K0 z1 z2 z3 z4) (acc++tx) _ HPN.o (by clear q1;rw[List.length_append];omega) (by omega)).mono ?_;rintro e v_ ⟨rfl,hp_,hk_⟩;replace HPN:=kp hp_;replace HKN:=kp (HKN.o.trans (hk_.mono (fun j hj=>.inl hj)));replace HE:=kp (at_mk (hk_.blk HE.o.blk HKE.o.1) HE.o.len);replace HX:=kp (at_mk (hk_.blk HX.o.blk HKE.o.2) HX.o.len);clear hp_ hk_;try clear w_
   rename World=>w_;clear c1 q1;have HMT:=kq (∀j u,fb[j]? = some u→w_.cell? ⟨g6,33+j,none⟩=some u) (fun j u hu=>HX.o.blk.at_ (HEF.o j u hu));go_wp2_with (with_reducible refine wlm 39 row_idk HMT.o HDF.o.len ?_);clear HMT;go_wp2_with fail;refine(pid_any gp (KSq K0 z1 z2 z3 z4) (acc++tx++numB ix) HDF.o _ HPN.o (by simp only [List.length_append];omega)).mono ?_;rintro e v_ ⟨rfl,hp_,hk_⟩;replace HPN:=kp hp_;replace HKN:=kp (HKN.o.trans (hk_.mono (fun j hj=>.inl hj)));replace HE:=kp (at_mk (hk_.blk HE.o.blk HKE.o.1) HE.o.len);replace HX:=kp (at_mk (hk_.blk HX.o.blk HKE.o.2) HX.o.len);clear hp_ hk_;try clear w_
   rename World=>w_;have HMT:=kq (∀j u,ob[j]? = some u→w_.cell? ⟨g6,0+j,none⟩=some u) (fun j u hu=>HX.o.blk.at_ (HEO.o j u hu));go_wp2_with (with_reducible refine wlm 44 row_idk HMT.o HDO.o.len ?_);clear HMT;go_wp2_with fail;refine(pid_any gp (KSq K0 z1 z2 z3 z4) (acc++tx++numB ix++fo) HDO.o _ HPN.o (by simp only [List.length_append];omega)).mono ?_;rintro e v_ ⟨rfl,hp_,hk_⟩;replace HPN:=kp hp_;replace HKN:=kp (HKN.o.trans (hk_.mono (fun j hj=>.inl hj)));replace HE:=kp (at_mk (hk_.blk HE.o.blk HKE.o.1) HE.o.len);replace HX:=kp (at_mk (hk_.blk HX.o.blk HKE.o.2) HX.o.len);clear hp_ hk_;try clear w_
   rename World=>w_;have c1:=HX.o.blk.at_ HC32.o;go_wp2_with fail;refine(num_any gp am (KSq K0 z1 z2 z3 z4) (acc++tx++numB ix++fo++ow) _ HPN.o (by simp only [List.length_append];omega) (by omega)).mono ?_;rintro e v_ ⟨rfl,hp_,hk_⟩;replace HPN:=kp hp_;replace HKN:=kp (HKN.o.trans (hk_.mono (fun j hj=>.inl hj)));replace HE:=kp (at_mk (hk_.blk HE.o.blk HKE.o.1) HE.o.len);replace HX:=kp (at_mk (hk_.blk HX.o.blk HKE.o.2) HX.o.len);clear hp_ hk_;try clear w_
   rename World=>w_;clear c1;have HREL:=kq (∃acc:List UInt8,PenAt w_ (KRq K0 z1 z2) gp acc∧acc.length≤9+(k+1)*114∧acc=numB n++(X.take (k+1)).flatMap putAtK∧Kept (KRq K0 z1 z2) w2 w_) ⟨acc++tx++numB ix++fo++ow++numB am,HPN.o.less (fun j hj=>.inl hj),by simp only [List.length_append];omega,by rw[HSN.o,HPI.o,HAC.o];simp only [List.append_assoc],HKN.o⟩;clear HPN HKN HE HX hlix hlam htl hol hfl;have v1:IntKind.i64.wrap ((k:Int)+1)=(k:Int)+1:=IntWalk.i64_in _ (by omega);go_wp2_with fail;go_roundw
   all_goals clear v1
   case rel=>exact⟨k+1,by omega,by go_num,HREL⟩
   case measure=>simp [intOf];omega
  ·obtain rfl:k=n:=by omega
   have HAE:=kq (acc=out) (by have h:=HAC.o;rw[List.take_of_length_le (by omega)]at h;rw[HPT.o];exact h);have HEND:=kq (PenAt w_ K0 gp out∧Kept K0 w w_) ⟨by rw[← HAE.o];exact HP.o.less (fun j hj=>.inl hj),HK2.o.trans (HKQ.o.mono (fun j hj=>.inl hj))⟩;go_wp2_with fail;refine bodyPost_end (results_none rfl _ _ _) rfl ?_;exact⟨rfl,HEND.o⟩
theorem bytesC_le{X:CoinsL}(hn:X.length≤256)(ho:∀e∈X,AtOKC e)(hx:IxOK X):(bytesC X).length≤30000:=by
 have h1:=numB_le (n:=X.length) (by omega)
 have h2:∀Y:CoinsL,(∀e∈Y,(putAt e).length≤82)→(Y.flatMap putAt).length≤Y.length*82:=by
  intro Y
  induction Y with
  | nil=>intro _;simp
  | cons e r ih =>
   intro h;have h3:=ih (fun x hx=>h x (List.mem_cons_of_mem _ hx));have h4:=h e (List.mem_cons_self ..);rw[List.flatMap_cons,List.length_append,List.length_cons];omega
 have h3:=h2 X (fun e he=>by
  have h4:=ho e he;have h5:=hx e he;have h6:=numB_le (n:=e.1.2.toNat) (by omega);have h7:=numB_le (n:=e.2.2.toNat) (by have:=h4.2.2;omega);unfold putAt
  simp only [List.length_append,h4.1.1,h4.2.1];omega)
 unfold bytesC;rw[List.length_append];omega
open Go.RowKit Go.Shelf
theorem PenAt.keptq{w w1:World}{K K1:Nat→Prop}{g gq:Nat}{xs:List UInt8}(h:PenAt w K g xs)(k:Kept K1 w w1)(hall:∀j,j < w.heap.size→j≠gq→K1 j)(hq:K gq)(hg:g≠gq):PenAt w1 K g xs:=by
 obtain⟨A,c,h1,h2,h3,h4⟩:=h;refine⟨A,c,k.blk h1 (hall g h1.lt hg),?_,fun j hj=>⟨Nat.lt_of_lt_of_le (h3 j hj).1 k.size,(h3 j hj).2⟩,h4⟩;refine⟨h2.1,?_⟩;rcases h2.2 with hn|⟨b,cap,cur,hv,hb,hh,r⟩
 ·exact .inl hn
 ·refine .inr ⟨b,cap,cur,hv,hb,(k.block b (hall b (Array.getElem?_eq_some_iff.1 hh).1 (fun e=>?_))).trans hh,r⟩;injection hv with hA
  exact(h3 gq hq).2.2 (by rw[hA,e];rfl)
theorem is22_any {X L : CoinsL} {Y K : LocksL} {s s2 : Int} {g b g2 b2 : Nat} {A : Option Addr} {n c : Nat} {A2 : Option Addr} {n2 c2 : Nat} (w : World) (hc : CoinsAt w g b L s) (hrc : RelC X L s) (hk : LocksAt w g2 b2 K s2) (hrk : RelK Y K s2) (hx : RowC w A n X) (hy : RowK w A2 n2 Y) :
  Calls Tryz.prog 21 #[.pointer (some ⟨g,0,none⟩),.pointer (some ⟨g2,0,none⟩),.agg (stV A n c A2 n2 c2).toArray] w fun e w'=>e=.returned (.bool true)∧Grow w w':=by
 have HC:=kp hc;have HK:=kp hk;have HX:=kp hx;have HY:=kp hy;have HLC:=kp (bytesC_le (by rw[hrc.lenX];exact hrc.len) hrc.okX hrc.ixX);have HLK:=kp (bytesK_le (by rw[hrk.lenX];exact hrk.len) hrk.okX hrk.ixX);have hn256:n≤256:=by rw[← hx.2.2,hrc.lenX];exact hrc.len
 have hn64:n2≤64:=by rw[← hy.2.2,hrk.lenX];exact hrk.len
 have HTR:=kp (fun w' (h':RowC w' A n X)=>rbytes19_any (c:=c) w' h' hn256 hrc.ixX);have HTK:=kp (fun w' (h':RowK w' A2 n2 Y)=>rbytes21_any (c:=c2) w' h' hn64 hrk.ixX);have HPC:=kp (fun gp K0 w' hl (h':CoinsAt w' g b L s) hp (h1:g < gp) (h2:b < gp)=>cputq_any g b gp X L s K0 w' hl h' hrc hp h1 h2);have HPK:=kp (fun gp K0 w' hl (h':LocksAt w' g2 b2 K s2) hp (h1:g2 < gp) (h2:b2 < gp)=>kputq_any g2 b2 gp Y K s2 K0 w' hl h' hrk hp h1 h2);have HSC:=kp (stV_cl (A:=A) (n:=n) (c:=c) (A2:=A2) (n2:=n2) (c2:=c2));have HT0:=kq ((stV A n c A2 n2 c2)[0]? = some (.slice A n c)∧(stV A n c A2 n2 c2)[1]? = some (.slice A2 n2 c2)) ⟨rfl,rfl⟩;obtain⟨sv,hsv⟩:=xe (stV A n c A2 n2 c2);rw[← hsv]at HSC HT0 ⊢;obtain⟨oc,hoc⟩:=xe (bytesC X);obtain⟨ok,hok⟩:=xe (bytesK Y);rw[← hoc]at HLC HTR HPC;rw[← hok]at HLK HTK HPK;obtain⟨w_,hw⟩:=xe w;have HB:=kq (Below w.heap.size w w_) (by rw[hw];exact Below.refl _ _)
 suffices H:Calls Tryz.prog 21 #[.pointer (some ⟨g,0,none⟩),.pointer (some ⟨g2,0,none⟩),.agg sv.toArray] w_ (fun e w'=>e=.returned (.bool true)∧Grow w w') by rw[hw]at H;exact H
 clear hw hc hrc hk hrk hx hy hsv hoc hok
 go_enter Tryz.func21,Tryz.ntmps21
 go_wp2_with (with_reducible first|refine wpl_box (o:=⟨some 5,_,_,_,_,_⟩) rfl rfl rfl ?_);intro v_ b_ y_ s_;have HX_:=kp (at_mk b_ HSC.o.len);clear b_ s_;have HG_:=kp HB.o.size;replace HB:=kp (HB.o.grow' y_);generalize x_:w_.heap.size=g5 at HX_ HG_ ⊢;clear x_;have HS_g:=HG_;clear HG_;have HS:=HX_;clear y_ HX_;try clear w_
 rename World=>w_;go_wp2_with (with_reducible first|refine wpl_alloc (o:=⟨some 7,_,_,_,_,_⟩) rfl rfl zero_penC ?_);intro w4 hb4 hbw4 hsz4;obtain⟨gp,hgp⟩:=xe w_.heap.size
 have HLT:=kp (show g5 < gp∧g < gp∧b < gp∧g2 < gp∧b2 < gp by
  rw[hgp];have h1:=(HC.o.call HB.o);have h2:=(HK.o.call HB.o)
  exact⟨HS.o.lt,h1.ltg,h1.ltb,h2.ltg,h2.ltb⟩)
 have HWG:=kq (w.heap.size≤gp) (by rw[hgp];exact HB.o.size);have HB0:=HB;have HW0:=kq (Below gp w_ w4) (by rw[hgp];exact hbw4);have HBg:=kq (gp=w_.heap.size) hgp;have HP0:=kq (Blk w4 gp 106 [.slice none 0 0]) (by rw[hgp];exact hb4);have HZ4:=kq (w4.heap.size=gp+1) (by rw[hgp];exact hsz4);rw[← hgp];clear hb4 hbw4 hsz4 hgp;go_wp2_with (with_reducible first|refine wpl_alloc (o:=⟨some 8,_,_,_,_,_⟩) rfl rfl zero_penC ?_);intro w5 hb5 hbw5 hsz5;rw[HZ4.o]at hb5 hbw5 hsz5 ⊢;have HQ0:=kq (Blk w5 (gp+1) 106 [.slice none 0 0]) hb5;have HPB:=kq (Blk w5 gp 106 [.slice none 0 0]) (HP0.o.below hbw5 (by omega));have HW5:=kq (Below gp w_ w5) (HW0.o.trans (hbw5.mono (by omega)));have HZ5:=kq (w5.heap.size=gp+2) hsz5;clear hb5 hbw5 hsz5 HP0 HW0 HZ4;obtain⟨K0,hK0⟩:∃q:Nat→Prop,q=fun j=>j < gp+2∧j≠gp:=⟨_,rfl⟩
 have HK0:=kq (∀j,K0 j↔j < gp+2∧j≠gp) (fun j=>by rw[hK0]);have HP:=kq (PenAt w5 K0 gp []) (PenAt.new HPB.o (fun k hk=>by have:=(HK0.o k).1 hk;exact⟨by rw[HZ5.o];exact this.1,this.2⟩));have HC5:=kq (CoinsAt w5 g b L s) ((HC.o.call HB0.o).below HW5.o HLT.o.2.1 HLT.o.2.2.1);have HK5:=kq (LocksAt w5 g2 b2 K s2) ((HK.o.call HB0.o).below HW5.o HLT.o.2.2.2.1 HLT.o.2.2.2.2);have HX5:=kq (Sl w_ gp 66 A n (X.flatMap encAtC)) (by rw[HBg.o];exact(HX.o.grow HB0.o).1);have HY5:=kq (Sl w_ gp 98 A2 n2 (Y.flatMap encAtK)) (by rw[HBg.o];exact(HY.o.grow HB0.o).1);have HXR:=kp HX.o.2;have HYR:=kp HY.o.2;have HS5:=kq (At w5 g5 37 2 sv) (at_mk (HS.o.blk.below HW5.o HLT.o.1) HS.o.len);clear hK0 HC HK HX HY HS HPB;have HPC1:=kp (HPC.o gp K0 w5 (fun j hj=>(HK0.o j).2 (by omega)) HC5.o HP.o HLT.o.2.1 HLT.o.2.2.1);go_wp2_with fail;refine HPC1.o.mono ?_;rintro e w6 ⟨rfl,hp_,hk_⟩;have HP6:=kp hp_;have HKP:=kp hk_;have HW6:=kq (Below gp w_ w6) (HW5.o.trans (hk_.below (fun j hj=>(HK0.o j).2 (by omega))));have HQ6:=kq (Blk w6 (gp+1) 106 [.slice none 0 0]) (hk_.blk HQ0.o ((HK0.o _).2 (by omega)));have HK6:=kp (HK5.o.keptK hk_ ((HK0.o _).2 (by have:=HLT.o;omega)) ((HK0.o _).2 (by have:=HLT.o;omega)));have HS6:=kq (At w6 g5 37 2 sv) (at_mk (hk_.blk HS5.o.blk ((HK0.o _).2 (by have:=HLT.o;omega))) HS5.o.len);have HZ6:=kq (gp+2≤w6.heap.size) (by rw[← HZ5.o];exact hk_.size);clear hp_ hk_ HP HC5 HK5 HS5 HQ0 HPC1 HPC HKP;obtain⟨K1,hK1⟩:∃q:Nat→Prop,q=fun j=>j < w6.heap.size∧j≠gp+1:=⟨_,rfl⟩
 have HK1:=kq (∀j,K1 j↔j < w6.heap.size∧j≠gp+1) (fun j=>by rw[hK1]);have HQ:=kq (PenAt w6 K1 (gp+1) []) (PenAt.new HQ6.o (fun k hk=>(HK1.o k).1 hk));clear hK1;have HPK1:=kp (HPK.o (gp+1) K1 w6 (fun j hj=>(HK1.o j).2 (by have:=HZ6.o;omega)) HK6.o HQ.o (by have:=HLT.o;omega) (by have:=HLT.o;omega));go_wp2_with fail;refine HPK1.o.mono ?_;rintro e w7 ⟨rfl,hp_,hk_⟩;have HQ7:=kp hp_;have HP7:=kp (HP6.o.keptq hk_ (fun j h1 h2=>(HK1.o j).2 ⟨h1,h2⟩) ((HK0.o _).2 (by omega)) (by omega));have HW7:=kq (Below gp w_ w7) (HW6.o.trans (hk_.below (fun j hj=>(HK1.o j).2 (by have:=HZ6.o;omega))));have HS7:=kq (At w7 g5 37 2 sv) (at_mk (hk_.blk HS6.o.blk ((HK1.o _).2 (by have:=HLT.o;have:=HZ6.o;omega))) HS6.o.len);have HSZ:=kq (gp≤w7.heap.size) (by have:=HZ6.o;have:=hk_.size;omega);have HX7:=kq (RowC w7 A n X) ⟨(HX5.o.below HW7.o).more HSZ.o,HXR.o⟩;have HY7:=kq (RowK w7 A2 n2 Y) ⟨(HY5.o.below HW7.o).more HSZ.o,HYR.o⟩;have HB7:=kq (Below w.heap.size w w7) (HB0.o.trans (HW7.o.mono HWG.o));clear hp_ hk_ HP6 HQ6 HK6 HS6 HW6 HQ HPK1 HPK HX5 HY5 HXR HYR HW5 HW7 HB0 HB;have HB:=HB7;have HS:=HS7;have HX:=HX7;have HY:=HY7;have HP:=HP7;have HQ:=HQ7;clear HB7 HS7 HX7 HY7 HP7 HQ7;try clear w6
 try clear w5
 try clear w4
 try clear w_
 rename World=>w_;go_wp2_with fail;try go_wp2_with fail
 repeat' (first|(with_reducible refine wpp (id:=4) Grow [4,0,1,3,3,0,4,0,1,3,3,0,0] (.get 1 (.get 2 (.act 0 (.act 3 (.act 4 (.get 5 (.get 7 (.get 8 (.act 6 (.act 9 (.act 10 (.get 11 (.get 12 .done))))))))))))) Grow.refl Grow.trans ?_)|go_values|go_skip|go_guarded|go_step|go_upon|go_back)
 intro w_ hd_;have y_:=hd_.grow;replace HB:=kp (HB.o.grow' y_);replace HS:=kp (HS.o.grow y_);replace HX:=kp (HX.o.grow y_);replace HY:=kp (HY.o.grow y_);replace HP:=kp (HP.o.grow y_);replace HQ:=kp (HQ.o.grow y_);clear y_ hd_;have c0:=HS.o.blk.at_ HT0.o.1;have c1:=HS.o.blk.at_ HT0.o.2;repeat (first|(refine plc (fun K hK=>?_);go_simp;refine hK _ _ ?_;clear hK K)|(refine pls (fun K hK=>?_);go_simp;refine hK _ _ ?_;clear hK K)|(refine psa (fun K hK=>?_);go_simp;refine hK _ _ ?_;clear hK K)|(refine pl_load rfl rfl (by first|exact wanted_none rfl|(go_simp;done)|rfl) rfl (by first|rfl|(go_simp;rfl)) (by kernel_rfl) (by first|exact c0) (fun K hK=>?_);go_simp;refine hK _ _ ?_;clear hK K)|(refine pl_loadnow rfl rfl (by first|exact wanted_none rfl|(go_simp;done)|rfl) rfl (by first|rfl|(go_simp;rfl)) (by kernel_rfl) (by first|exact c0) (fun K hK=>?_);go_simp;refine hK _ _ ?_;clear hK K))
 refine pl_act rfl (by first|exact wanted_none rfl|(go_simp;done)|rfl) (fun K hK=>?_);go_wp2_with fail;refine(pbytes_any gp K0 oc w_ HP.o (by have:=HLC.o;omega)).mono ?_;rintro e v_ ⟨A6,c6,rfl,ho6,hc6,y_⟩;have HO:=kp (Sl.of_own ho6);go_wp2_with fail;refine hK _ _ (fun _=>y_) ?_;clear hK K ho6 hc6 c0 c1 HP;replace HS:=kp (HS.o.grow y_);replace HX:=kp (HX.o.grow y_);replace HY:=kp (HY.o.grow y_);replace HQ:=kp (HQ.o.grow y_);replace HB:=kp (HB.o.grow' y_);clear y_;try clear w_
 rename World=>w_;repeat ((first|refine plc (fun K hK=>?_)|refine pls (fun K hK=>?_)|refine psa (fun K hK=>?_));go_simp;refine hK _ _ ?_;clear hK K)
 refine pl_act rfl (by first|exact wanted_none rfl|(go_simp;done)|rfl) (fun K hK=>?_);go_wp2_with fail;refine(HTR.o w_ HX.o).mono ?_;rintro e v_ ⟨A7,c7,rfl,hs7,hc7,hl7,y_⟩;have HR:=kp hs7;go_wp2_with fail;refine hK _ _ (fun h=>by first|exact y_|cases h) ?_;clear hK K hs7 hc7 hl7 HX;replace HS:=kp (HS.o.grow y_);replace HY:=kp (HY.o.grow y_);replace HQ:=kp (HQ.o.grow y_);replace HO:=kp (Sl.grow HO.o y_);replace HB:=kp (HB.o.grow' y_);clear y_;try clear w_
 rename World=>w_;repeat ((first|refine plc (fun K hK=>?_)|refine pls (fun K hK=>?_)|refine psa (fun K hK=>?_));go_simp;refine hK _ _ ?_;clear hK K)
 refine pl_act rfl (by first|exact wanted_none rfl|(go_simp;done)|rfl) (fun K hK=>?_);go_wp2_with fail;refine(bytesq_any (res:=true) (by simp) w_ HO.o HR.o (by have:=HLC.o;omega)).mono ?_;rintro e v_ ⟨rfl,y_⟩;go_wp2_with fail;refine hK _ _ (fun h=>by first|exact y_|cases h) ?_;clear hK K HO HR;replace HS:=kp (HS.o.grow y_);replace HY:=kp (HY.o.grow y_);replace HQ:=kp (HQ.o.grow y_);replace HB:=kp (HB.o.grow' y_);clear y_;try clear w_
 rename World=>w_;have c1:=HS.o.blk.at_ HT0.o.2;repeat (first|(refine plc (fun K hK=>?_);go_simp;refine hK _ _ ?_;clear hK K)|(refine pls (fun K hK=>?_);go_simp;refine hK _ _ ?_;clear hK K)|(refine psa (fun K hK=>?_);go_simp;refine hK _ _ ?_;clear hK K)|(refine pl_load rfl rfl (by first|exact wanted_none rfl|(go_simp;done)|rfl) rfl (by first|rfl|(go_simp;rfl)) (by kernel_rfl) (by first|exact c1) (fun K hK=>?_);go_simp;refine hK _ _ ?_;clear hK K)|(refine pl_loadnow rfl rfl (by first|exact wanted_none rfl|(go_simp;done)|rfl) rfl (by first|rfl|(go_simp;rfl)) (by kernel_rfl) (by first|exact c1) (fun K hK=>?_);go_simp;refine hK _ _ ?_;clear hK K))
 refine pl_act rfl (by first|exact wanted_none rfl|(go_simp;done)|rfl) (fun K hK=>?_);go_wp2_with fail;refine(pbytes_any (gp+1) K1 ok w_ HQ.o (by have:=HLK.o;omega)).mono ?_;rintro e v_ ⟨A6,c6,rfl,ho6,hc6,y_⟩;have HO:=kp (Sl.of_own ho6);go_wp2_with fail;refine hK _ _ (fun _=>y_) ?_;clear hK K ho6 hc6 c1 HQ HS;replace HY:=kp (HY.o.grow y_);replace HB:=kp (HB.o.grow' y_);clear y_;try clear w_
 rename World=>w_;repeat ((first|refine plc (fun K hK=>?_)|refine pls (fun K hK=>?_)|refine psa (fun K hK=>?_));go_simp;refine hK _ _ ?_;clear hK K)
 refine pl_act rfl (by first|exact wanted_none rfl|(go_simp;done)|rfl) (fun K hK=>?_);go_wp2_with fail;refine(HTK.o w_ HY.o).mono ?_;rintro e v_ ⟨A7,c7,rfl,hs7,hc7,hl7,y_⟩;have HR:=kp hs7;go_wp2_with fail;refine hK _ _ (fun h=>by first|exact y_|cases h) ?_;clear hK K hs7 hc7 hl7 HY;replace HO:=kp (Sl.grow HO.o y_);replace HB:=kp (HB.o.grow' y_);clear y_;try clear w_
 rename World=>w_;repeat ((first|refine plc (fun K hK=>?_)|refine pls (fun K hK=>?_)|refine psa (fun K hK=>?_));go_simp;refine hK _ _ ?_;clear hK K)
 refine pl_act rfl (by first|exact wanted_none rfl|(go_simp;done)|rfl) (fun K hK=>?_);go_wp2_with fail;refine(bytesq_any (res:=true) (by simp) w_ HO.o HR.o (by have:=HLK.o;omega)).mono ?_;rintro e v_ ⟨rfl,y_⟩;go_wp2_with fail;refine hK _ _ (fun h=>by first|exact y_|cases h) ?_;clear hK K HO HR;replace HB:=kp (HB.o.grow' y_);clear y_;try clear w_
 rename World=>w_;repeat ((first|refine plc (fun K hK=>?_)|refine pls (fun K hK=>?_)|refine psa (fun K hK=>?_));go_simp;refine hK _ _ ?_;clear hK K)
 refine pl_done ?_;go_wp2_with fail;go_ret
 exact⟨rfl,HB.o⟩
end Go.Proofs.YtnnjjbkdjkjnpaaGreatDoor

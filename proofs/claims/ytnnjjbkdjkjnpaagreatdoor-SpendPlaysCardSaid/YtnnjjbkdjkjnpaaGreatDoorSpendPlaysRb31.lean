/- Arguments opened: digests,lists of digests. -/
import Derived.Test.YtnnjjbkdjkjnpaaGreatDoorSpendPlaysRb30
set_option linter.unusedSimpArgs false
set_option linter.unusedVariables false
set_option maxRecDepth 100000
set_option maxHeartbeats 16000000
namespace Go.Proofs.YtnnjjbkdjkjnpaaGreatDoor
open Go.RowKit Go.ChangeShapes Go.WideShapes
section
variable {H:Type} {enc:TypeId×Value→H} {w:World} {r:Reach} {b0 base:Nat} {spare:Nat→Bool} {held:Bool}
end
end Go.Proofs.YtnnjjbkdjkjnpaaGreatDoor
namespace Go.Proofs.YtnnjjbkdjkjnpaaGreatDoor
open Go.RowKit Go.Shelf
theorem great_tx{A:Option Addr}{n c:Nat}{A2:Option Addr}{n2 c2:Nat}{l:List (Value×Inp)}{os:List Outp}{fee ex:Int}{w:World}(hi:InsAt w A n c l)(ho:OutsAt w A2 n2 c2 os)(hf:U64 fee)(hx:I64 ex)(hg:greatT ⟨l.map Prod.snd,os,fee,ex⟩=false):TxAt w (txV A n c A2 n2 c2 fee ex) ⟨l.map Prod.snd,os,fee,ex⟩:=by
 unfold greatT at hg;simp only [Bool.or_eq_false_iff,decide_eq_false_iff_not]at hg;have h1:=hi.2.2.1;have h2:=ho.2.2.1;have h3:(l.map Prod.snd).length=l.length:=List.length_map ..;refine⟨A,n,c,A2,n2,c2,fee,ex,l,os,rfl,rfl,hi,ho,by have:=hg.1.1;simp only [h3]at this;omega,by have:=hg.1.2;omega,hf,hx⟩
open Go.RowKit Go.ChangeShapes Go.WideShapes
structure ActS where
 dof:Int
 tv:List Value
 own:Bool
 id:List UInt8
 t:Txn
def actS(a:ActS):List Value:=.int .i64 a.dof::(a.tv++(.bool a.own::a.id.map B))
def ActSOK(w:World)(a:ActS):Prop:=a.id.length=32∧I64 a.dof∧∃A n c A2 n2 c2,∃l:List (Value×Inp),∃os:List Outp,∃fee ex:Int,a.tv=txV A n c A2 n2 c2 fee ex∧a.t=⟨l.map Prod.snd,os,fee,ex⟩∧InsAt w A n c l∧OutsAt w A2 n2 c2 os∧U64 fee∧I64 ex∧c≤maxLen∧c2≤maxLen
theorem ActSOK.cl{w:World}{a:ActS}(h:ActSOK w a):Cl 4 a.tv:=by
 obtain⟨_,_,A,n,c,A2,n2,c2,l,os,fee,ex,e,_⟩:=h;rw[e];exact txV_cl
theorem actS_cl{w:World}{a:ActS}(h:ActSOK w a):Cl 38 (actS a):=by
 have h1:=h.cl;refine⟨by unfold actS;simp [h1.len,h.1],fun u hu=>?_⟩;unfold actS at hu;simp only [List.mem_cons,List.mem_append,List.mem_map]at hu;rcases hu with rfl|hu|rfl|⟨_,_,rfl⟩
 ·rfl
 ·exact h1.one u hu
 ·rfl
 ·rfl
theorem actS_do(a:ActS):(actS a)[0]? = some (.int .i64 a.dof):=rfl
theorem actS_tx{a:ActS}{j:Nat}{u:Value}(hu:a.tv[j]? = some u):(actS a)[1+j]? = some u:=by
 unfold actS;rw[show 1+j=j+1 by omega,List.getElem?_cons_succ,List.getElem?_append_left (List.getElem?_eq_some_iff.1 hu).1];exact hu
theorem actS_own{w:World}{a:ActS}(h:ActSOK w a):(actS a)[5]? = some (.bool a.own):=by
 have h1:=h.cl.len;unfold actS;rw[List.getElem?_cons_succ,List.getElem?_append_right (by omega),h1];rfl
theorem actS_id{w:World}{a:ActS}(h:ActSOK w a){j:Nat}{u:Value}(hu:(a.id.map B)[j]? = some u):(actS a)[6+j]? = some u:=by
 have h1:=h.cl.len;unfold actS;rw[show 6+j=(5+j)+1 by omega,List.getElem?_cons_succ,List.getElem?_append_right (by omega),h1,show 5+j - 4=j+1 by omega,List.getElem?_cons_succ];exact hu
theorem ActSOK.great{w:World}{a:ActS}(h:ActSOK w a)(w':World)(k:Grow w w'):Calls Tryz.prog 7 #[.agg a.tv.toArray] w' fun e w''=>e=.returned (.int .i64 (if greatT a.t then 1 else 0))∧Grow w' w'':=by
 obtain⟨_,_,A,n,c,A2,n2,c2,l,os,fee,ex,e,e2,hi,ho,hf,hx,hm,hm2⟩:=h;rw[e,e2];exact rtgreat_any w' (hi.grow k) ho.2.2.1 (by have:=hi.2.2.2;unfold maxLen at hm;omega) (by have:=ho.2.2.2;unfold maxLen at hm2;omega)
theorem ActSOK.tx{w:World}{a:ActS}(h:ActSOK w a)(hg:greatT a.t=false):TxAt w a.tv a.t:=by
 obtain⟨_,_,A,n,c,A2,n2,c2,l,os,fee,ex,e,e2,hi,ho,hf,hx,hm,hm2⟩:=h;rw[e2]at hg;rw[e,e2];exact great_tx hi ho hf hx hg
theorem cells_act22:Tryz.prog.cellsOf 59=38:=by kernel_rfl
theorem cells_bool22:Tryz.prog.cellsOf 4=1:=by kernel_rfl
theorem row_acts22:RowT Tryz.prog 59 38:=⟨_,Tryz.underlying59,by kernel_rfl,by kernel_rfl⟩
def zActS:ActS:=⟨0,txV none 0 0 none 0 0 0 0,false,List.replicate 32 0,⟨[],[],0,0⟩⟩
theorem zero_acts22:(Tryz.prog.info? 59).map (·.zero)=some (some (.agg (actS zActS).toArray)):=by kernel_rfl
theorem len_acts22:(actS zActS).length=38:=by simp [actS,zActS,txV]
instance:Inhabited ActS:=⟨zActS⟩
def ActsS(w:World)(A:Option Addr)(n:Nat)(l:List ActS):Prop:=l.length=n∧Sl w w.heap.size 38 A n (l.flatMap actS)∧∀a∈l,ActSOK w a
theorem ActsS.at_{w:World}{A:Option Addr}{n:Nat}{l:List ActS}(h:ActsS w A n l){k:Nat}(hk:k < n):∃b off a,A=some ⟨b,off,none⟩∧b < w.heap.size∧l[k]? = some a∧(∀j u,(actS a)[j]? = some u→w.cell? ⟨b,off+k*38+j,none⟩=some u)∧ActSOK w a:=by
 obtain⟨b,off,e,hb,hc⟩:=h.2.1.2 (by omega);have hl:k < l.length:=by have:=h.1;omega
 refine⟨b,off,l[k],e,hb,List.getElem?_eq_getElem hl,fun j u hu=>?_,h.2.2 _ (List.getElem_mem hl)⟩;rw[Nat.add_assoc];exact hc _ u (fm_atA actS 38 l k j _ u (fun y hy=>(actS_cl (h.2.2 y hy)).len) (List.getElem?_eq_getElem hl) hu)
section
variable {H:Type} {enc:TypeId×Value→H} {w:World} {r:Reach} {b0 base:Nat} {spare:Nat→Bool} {held:Bool}
theorem trod_tx22 {fuel : Nat} {cs : List Value} {y : DataW H × List MemPlace} (hl0 : cs.length = 4) (hf : DataW.trod enc Tryz.prog w base spare held fuel 27 cs = some y) :
  ∃A n c A2 n2 c2,∃l:List (Value×Inp),∃os:List Outp,∃fee ex:Int,cs=txV A n c A2 n2 c2 fee ex∧InsAt w A n c l∧OutsAt w A2 n2 c2 os∧U64 fee∧I64 ex∧c≤maxLen∧c2≤maxLen:=by
 obtain⟨xs,n,_,_,hl,hxs,hg⟩:=DataW.trod_struct Tryz.underlying27 hf;replace hg:=fun i f h=>hg i f h
 have hxs5:xs.length=4:=hxs;obtain⟨y0,h0⟩:=got (hg 0 _ rfl) (by omega);obtain⟨y1,h1⟩:=got (hg 1 _ rfl) (by omega);obtain⟨y2,h2⟩:=got (hg 2 _ rfl) (by omega);obtain⟨y3,h3⟩:=got (hg 3 _ rfl) (by omega);replace h0:DataW.trod enc Tryz.prog w base spare held n 23 ((cs.drop 0).take (Tryz.prog.cellsOf 23))=some y0:=h0;replace h1:DataW.trod enc Tryz.prog w base spare held n 24 ((cs.drop 1).take (Tryz.prog.cellsOf 24))=some y1:=h1;replace h2:DataW.trod enc Tryz.prog w base spare held n 25 ((cs.drop 2).take (Tryz.prog.cellsOf 25))=some y2:=h2;replace h3:DataW.trod enc Tryz.prog w base spare held n 3 ((cs.drop 3).take (Tryz.prog.cellsOf 3))=some y3:=h3;rw[cells_stin]at h0;rw[cells_stout]at h1;rw[cells_u64]at h2;rw[cells_int]at h3;obtain⟨A,m,c,l,e0,l0,m0,x0,s0,k0,_⟩:=open_list0 (fun p:Value×Inp=>inV p.1 p.2) (fun p=>InOK w w.heap.size p) Tryz.underlying23 cells_tin (show 0 < 35 by omega) (fun fuel cs y hl ht=>trod_in hl ht) h0;obtain⟨A2,m2,c2,os,e1,l1,m1,x1,s1,k1,_⟩:=open_list0 outV Outp.ok Tryz.underlying24 cells_tout (show 0 < 33 by omega) (fun fuel cs y hl ht=>trod_out hl ht) h1;obtain⟨z2,e2,_,w2⟩:=DataW.trod_int Tryz.underlying25 h2;obtain⟨z3,e3,_,w3⟩:=DataW.trod_int Tryz.underlying3 h3;refine⟨A,m,c,A2,m2,c2,l,os,z2,z3,?_,⟨s0,k0,l0,m0⟩,⟨s1,k1,l1,m1⟩,u64_of w2,i64_of w3,x0,x1⟩;have a4:cs.drop 4=[]:=List.drop_of_length_le (by omega);have a3:=cut_eq e3 a4;have a2:=cut_eq e2 a3;have a1:=cut_eq e1 a2;have a0:=cut_eq e0 a1;rw[List.drop_zero]at a0;rw[a0];simp [txV]
theorem trod_act22{fuel:Nat}{cs:List Value}{y:DataW H×List MemPlace}(hl0:cs.length=38)(hf:DataW.trod enc Tryz.prog w base spare held fuel 59 cs=some y):∃a:ActS,cs=actS a∧ActSOK w a:=by
 obtain⟨xs,n,_,_,hl,hxs,hg⟩:=DataW.trod_struct Tryz.underlying59 hf;replace hg:=fun i f h=>hg i f h
 have hxs5:xs.length=4:=hxs;obtain⟨y0,h0⟩:=got (hg 0 _ rfl) (by omega);obtain⟨y1,h1⟩:=got (hg 1 _ rfl) (by omega);obtain⟨y2,h2⟩:=got (hg 2 _ rfl) (by omega);obtain⟨y3,h3⟩:=got (hg 3 _ rfl) (by omega);replace h0:DataW.trod enc Tryz.prog w base spare held n 3 ((cs.drop 0).take (Tryz.prog.cellsOf 3))=some y0:=h0;replace h1:DataW.trod enc Tryz.prog w base spare held n 27 ((cs.drop 1).take (Tryz.prog.cellsOf 27))=some y1:=h1;replace h2:DataW.trod enc Tryz.prog w base spare held n 4 ((cs.drop 5).take (Tryz.prog.cellsOf 4))=some y2:=h2;replace h3:DataW.trod enc Tryz.prog w base spare held n 46 ((cs.drop 6).take (Tryz.prog.cellsOf 46))=some y3:=h3;rw[cells_int]at h0;rw[cells_tx]at h1;rw[cells_bool22]at h2;rw[cells_id]at h3;obtain⟨z0,e0,_,w0⟩:=DataW.trod_int Tryz.underlying3 h0;obtain⟨A,m,c,A2,m2,c2,l,os,fee,ex,e1,hi,ho,hf,hx,hm,hm2⟩:=trod_tx22 (by rw[List.length_take,List.length_drop];omega) h1;obtain⟨bo,e2,_⟩:=DataW.trod_bool Tryz.underlying4 h2;obtain⟨d3,e3,l3⟩:=trod_bytes Tryz.underlying46 Tryz.underlying5 cells_u8 cells_id h3;refine⟨⟨z0,txV A m c A2 m2 c2 fee ex,bo,d3,⟨l.map Prod.snd,os,fee,ex⟩⟩,?_,l3,i64_of w0,A,m,c,A2,m2,c2,l,os,fee,ex,rfl,rfl,hi,ho,hf,hx,hm,hm2⟩;have a4:cs.drop 38=[]:=List.drop_of_length_le (by omega);have a3:=cut_eq e3 a4;have a2:=cut_eq e2 a3;have a1:=cut_eq e1 a2;have a0:=cut_eq e0 a1;rw[List.drop_zero]at a0;rw[a0];simp [actS]
theorem open_acts22 {v : Value} {d : DataW H} {ps : List MemPlace} (hval : Value.okWide Tryz.prog w r b0 57 v) (h : DataW.Trod enc Tryz.prog w base spare held 57 v d ps) :
  ∃A n c,∃l:List ActS,v=.slice A n c∧ActsS w A n l∧n≤9223372036854775807:=by
 obtain⟨A,n,c,l,h1,h2,h3,h4,h5,h6,_⟩:=open_list actS (ActSOK w) Tryz.underlying57 cells_act22 (show 0 < 38 by omega) (fun fuel cs y hl h=>trod_act22 hl h) hval h;exact⟨A,n,c,l,h1,⟨h2,h5,h6⟩,by unfold maxLen at h4;omega⟩
end
end Go.Proofs.YtnnjjbkdjkjnpaaGreatDoor
namespace Go.Proofs.YtnnjjbkdjkjnpaaGreatDoor
open Go.RowKit Go.Shelf
theorem mod_step(a c nn:Nat):(a*256+c) % nn=(a % nn*256+c) % nn:=by
 have h:a*256+c=nn*(a / nn*256)+(a % nn*256+c):=by
  have:=Nat.div_add_mod a nn;rw[← Nat.mul_assoc,← Nat.add_assoc,← Nat.add_mul,this]
 rw[h,Nat.mul_add_mod]
theorem shd_bytes(p:PtK)(h:p.1.length=32):(underB 10 [p.1,[UInt8.ofNat p.2.toNat]]).map B=([B 10]++(beBytes 32 4++p.1).map B)++[.int .u8 0,.int .u8 0,.int .u8 0,.int .u8 1,B (UInt8.ofNat p.2.toNat)]:=by
 rw[under2',h];rw[show [UInt8.ofNat p.2.toNat].length=1 from rfl,show beBytes 1 4=[0,0,0,1] by decide +kernel];simp only [List.map_append,List.map_cons,List.map_nil,List.append_assoc]
 rfl
theorem rof8_any (p : PtK) (n : Int) (w : World) (hp : PtOK p) (hs : shOK p n) :
  Calls Tryz.prog 115 #[ptA p,.int .i64 n] w fun e w'=>e=.returned (.int .i64 (shd p n))∧Below w.heap.size w w':=by
 obtain⟨zs,hzs⟩:=xe ((shdD p).map B);have HD:=kq (Dig zs (sha (underB 10 [p.1,[UInt8.ofNat p.2.toNat]]))) ⟨hzs,sha_length _⟩;have HDL:=kp (shdD_len p);have HZS:=kp hzs;have HBB:=kp (byteB (x:=p.2) ⟨hs.2.2.1,hs.2.2.2⟩);have HUB:=kp (shd_bytes p hp.1);rw[HBB.o]at HUB;have HXC:=kp (ptV_cl hp);have HX1:=kp (ptV_ix hp.1);have HDP:=kq (Dig (p.1.map B) p.1) ⟨rfl,hp.1⟩;have HPM:=kq (∀j u,(p.1.map B)[j]? = some u→(ptV p)[j]? = some u) (fun j u hu=>by unfold ptV;rw[List.getElem?_append_left (List.getElem?_eq_some_iff.1 hu).1];exact hu);have HSH:=kq (shd p n=((valB ((shdD p).take 8) % n.toNat:Nat):Int)) rfl;obtain⟨h1,h2,h3,h4⟩:=hs;obtain⟨ds,hds⟩:=xe (shdD p);rw[← hds]at HDL HZS HSH;obtain⟨sv,hsv⟩:=xe (shd p n);rw[← hsv]at HSH ⊢;unfold ptA;obtain⟨xs,hxs⟩:=xe (ptV p);rw[← hxs]at HXC HX1 HPM ⊢;obtain⟨us,hus⟩:=xe (underB 10 [p.1,[UInt8.ofNat p.2.toNat]]);rw[← hus]at HD HUB;obtain⟨ix,hix⟩:=xe p.2;obtain⟨pid,hpid⟩:=xe p.1;rw[← hix]at h3 h4 HX1 HUB;rw[← hpid]at HDP HPM HUB;obtain⟨ps,hps⟩:=xe (pid.map B);rw[← hps]at HDP HPM;have HB:=kp (Below.refl w.heap.size w);have e1:¬ (n < 1):=by omega
 have e2:¬ (64 < n):=by omega
 have e3:¬ (ix < 0):=by omega
 have e4:¬ (15 < ix):=by omega
 have e5:IntKind.u8.wrap ix=ix:=by rw[IntKind.wrap_u8];omega
 clear hp hzs hds hsv hxs hix hpid hus hps;obtain⟨w_,hw⟩:=xe w;replace HB:=kq (Below w.heap.size w w_) (by rw[hw];exact Below.refl _ _)
 suffices H:Calls Tryz.prog 115 #[.agg xs.toArray,.int .i64 n] w_ (fun e w'=>e=.returned (.int .i64 sv)∧Below w.heap.size w w') by rw[hw]at H;exact H
 clear hw
 go_enter Tryz.func115,Tryz.ntmps115
 go_wp2_with (with_reducible first|refine wpl_box (o:=⟨some 2,_,_,_,_,_⟩) rfl rfl rfl ?_);intro v_ b_ y_ s_;have HX_:=kp (at_mk b_ HXC.o.len);clear b_ s_;have HG_:=kp HB.o.size;replace HB:=kp (HB.o.grow' y_);generalize x_:w_.heap.size=g1 at HX_ HG_ ⊢;clear x_;have HP_g:=HG_;clear HG_;have HP:=HX_;clear y_ HX_;try clear w_
 rename World=>w_;have c1:=HP.o.blk.at_ HX1.o;go_wp2_with (with_reducible refine wst 26 ?_);refine stop_go ?_;clear c1;generalize hw_:World.alloc w_ _=w1_;obtain⟨hX_,hb1,hs_⟩:=alloc_eq hw_;have HO:=kp (own_blk (base:=w_.heap.size) hX_ (n:=1) rfl (Nat.le_refl _) (by simp [maxLen]));have HG1:=kp hb1;have HP1:=kp (HP.o.grow hb1);clear hw_ hX_ hb1 hs_;have HM1:=kq (∀j u,ps[j]? = some u→w1_.cell? ⟨g1,0+j,none⟩=some u) (fun j u hu=>by rw[Nat.zero_add];exact HP1.o.blk.at_ (HPM.o j u hu));go_wp2_with (with_reducible refine wlm 27 row_id HM1.o HDP.o.len ?_);refine(tbytes_any HDP.o _).mono ?_;rintro e v_ ⟨A3,c3,rfl,hs3,hc3,y_⟩;have HS3:=kp hs3;have HO2:=kp (own_below HO.o y_);have HG2:=kp (Grow.trans _ _ _ HG1.o y_);clear hs3 hc3 y_ HO HG1 HM1;go_wp2_with fail;refine(long_any _ _ _ pid _ HS3.o (by omega)).mono ?_;rintro e w3_ ⟨A5,c5,rfl,ho_,y_⟩;have HLG:=kp (Sl.of_own ho_);have HAB:=kp (all_bytes (beBytes 32 4++pid));have HO3:=kp (own_below HO2.o y_);have HG3:=kp (Grow.trans _ _ _ HG2.o y_);clear ho_ y_ HO2 HS3 HG2;go_wp2_with (at_builtin;refine wpl_apps rfl rfl el_u8 HO3.o rfl HLG.o rfl HAB.o (by omega) (by omega) HG3.o.size ?_);intro A6 c6 w4 ho hg hA;have HG4:=kq (Grow w_ w4) (app_below HG3.o HO3.o hg);have HO4:=kp ho;have HP4:=kp (HP.o.grow HG4.o);have c1:=HP4.o.blk.at_ HX1.o;clear ho hg hA HO3 HG3 HLG HAB HP1;go_wp2_with (first|(at_builtin;refine wpl_app1 rfl rfl el_u8 HO4.o rfl (m:=5) rfl ?_ ?_ ?_ ?_ ?_ ?_))
 ·rfl
 ·exact⟨rfl,rfl,rfl⟩
 ·omega
 ·omega
 ·exact HG4.o.size
 intro A7 c7 w5 ho hg hA;have hb5:Grow w_ w5:=app_below HG4.o HO4.o hg
 have HX:=kp (show Sl w5 w5.heap.size 1 A7 (1+(4+32)+5) (us.map B) by
  have h:=Sl.of_own ho;rw[HUB.o];simp only [List.map_append,List.cons_append,List.nil_append,List.append_assoc]at h ⊢
  exact h)
 replace HB:=kp (HB.o.grow' hb5);replace HP:=kp (HP.o.grow hb5);clear ho hg hA HO4 HG4 hb5 c1 HP4;try clear w_
 rename World=>w_;go_wp2_with fail;refine(dof_any _ _ _ HD.o _ HX.o (by omega)).mono ?_;rintro e w_ ⟨rfl,y_⟩;replace HB:=kp (HB.o.grow' y_);replace HP:=kp (HP.o.grow y_);clear y_;go_wp2_with (with_reducible first|refine wpl_alloc (o:=⟨some 6,_,_,_,_,_⟩) rfl rfl zero_id ?_);intro w1_ hb1_ hbw1_ hsz1_;have HB1_:=kp (at_mk hb1_ len_id);have HBW1_:=kp hbw1_;have HZ1_:=kp hsz1_;clear hb1_ hbw1_ hsz1_;go_wp2_with (with_reducible refine wsb row_id HB1_.o.blk HB1_.o.len HD.o.len HD.o.one ?_);intro v_ b_ g_ s_;have y_:=var_grow HBW1_.o HZ1_.o g_;have HX_:=kp (at_mk b_ HD.o.len);clear b_ g_ s_ HB1_ HBW1_ HZ1_;replace HB:=kp (HB.o.grow' y_);generalize x_:w_.heap.size=gD at HX_ ⊢;clear x_;have HV:=HX_;clear y_ HX_;clear w1_;try clear w_
 rename World=>w_;go_wp2_with fail;obtain⟨nn,rfl⟩:∃nn:Nat,n=(nn:Int):=⟨n.toNat,by omega⟩;go_loopw [7,8] (fun s7 iv wr=>∃j:Nat,j≤8∧iv=.int .i64 j∧s7=.int .i64 ((valB (ds.take j) % nn:Nat):Int)∧wr=w_) (fun _ iv _=>8 - (intOf iv).toNat)
 case atStart=>exact⟨0,Nat.zero_le _,rfl,by rw[List.take_zero,valB_nil,Nat.zero_mod];rfl,rfl⟩
 case round =>
  obtain⟨j,hj,rfl,rfl,rfl⟩:=hrel;have hlf:=Nat.mod_lt (valB (ds.take j)) (y:=nn) (by omega);by_cases hlt:j < 8
  ·obtain⟨c,hcj⟩:∃c,ds[j]? = some c:=⟨_,List.getElem?_eq_getElem (by rw[HDL.o];omega)⟩;obtain⟨cn,hcn⟩:=xe c.toNat;have hc256:cn < 256:=by rw[hcn];exact c.toNat_lt
   have hc3:wr.cell? ⟨gD,j,none⟩=some (.int .u8 (cn:Int)):=by
    rw[hcn];have h:=HV.o.blk.at_ (i:=j) (show zs[j]? = some (.int .u8 (b8 c)) by rw[HZS.o,List.getElem?_map,hcj];rfl);exact h
   have HST:=kp (show valB (ds.take (j+1)) % nn=(valB (ds.take j) % nn*256+cn) % nn by
    rw[take_snoc hcj,valB_snoc,← hcn]
    exact mod_step _ _ _)
   obtain⟨lf,hlfe⟩:=xe (valB (ds.take j) % nn);rw[← hlfe]at hlf HST ⊢;clear hcj hcn hlfe;have q0:((nn:Int) == 0)=false:=by rw[beq_eq_false_iff_ne];omega
   have hne:¬ ((nn:Int)=0):=by omega
   obtain⟨sm,hsm⟩:=xe (lf*256+cn);have hsi:(lf:Int)*256+(cn:Int)=(sm:Int):=by omega
   have q2:Int.tmod ((lf:Int)*256+(cn:Int)) (nn:Int)=((sm % nn:Nat):Int):=by
    rw[hsi,Int.tmod_eq_emod_of_nonneg (by omega)];omega
   have q3:IntKind.i64.wrap (cn:Int)=(cn:Int):=IntWalk.i64_in _ (by omega);have q4:IntKind.i64.wrap ((lf:Int)*256)=(lf:Int)*256:=IntWalk.i64_in _ (by omega);have q5:IntKind.i64.wrap ((lf:Int)*256+(cn:Int))=(lf:Int)*256+(cn:Int):=IntWalk.i64_in _ (by omega);have hml:=Nat.mod_lt sm (y:=nn) (by omega);rw[← hsm]at HST;obtain⟨md,hmd⟩:=xe (sm % nn);rw[← hmd]at q2 HST hml;clear hmd hsi hsm;go_wp2_with fail;go_roundw
   case rel=>exact⟨j+1,by omega,by go_num,by rw[HST.o],by first|trivial|rfl⟩
   case measure=>simp [intOf];omega
  ·obtain rfl:j=8:=by omega
   have HSV:=kq (sv=((valB (ds.take 8) % nn:Nat):Int)) HSH.o;go_wp2_with fail;go_ret
   exact⟨by rw[HSV.o];rfl,HB.o⟩
end Go.Proofs.YtnnjjbkdjkjnpaaGreatDoor

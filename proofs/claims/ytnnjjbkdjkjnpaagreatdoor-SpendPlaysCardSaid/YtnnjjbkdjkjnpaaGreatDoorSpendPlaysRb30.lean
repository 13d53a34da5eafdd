/- The document's coins: Bytes. Printed by mkrfd.py. -/
import Derived.Test.YtnnjjbkdjkjnpaaGreatDoorSpendPlaysRb29
import Derived.Test.YtnnjjbkdjkjnpaaGreatDoorSpendPlaysRb28
set_option linter.unusedSimpArgs false
set_option linter.unusedVariables false
set_option maxRecDepth 100000
set_option maxHeartbeats 16000000
namespace Go.Proofs.YtnnjjbkdjkjnpaaGreatDoor
open Go.RowKit
def putAt(e:PtK×CoinV):List UInt8:=e.1.1++numB e.1.2.toNat++e.2.1++numB e.2.2.toNat
def bytesC(l:CoinsL):List UInt8:=numB l.length++l.flatMap putAt
theorem encAtC_ix{e:PtK×CoinV}(h:AtOKC e):(encAtC e)[32]? = some (.int .i64 e.1.2):=by have:=encAtC_pt h (ptV_ix h.1.1);simpa using this
theorem encAtC_id{e:PtK×CoinV}(h:AtOKC e){j:Nat}{u:Value}(hu:(e.1.1.map B)[j]? = some u):(encAtC e)[0+j]? = some u:=
 encAtC_pt h (by unfold ptV;rw[List.getElem?_append_left (List.getElem?_eq_some_iff.1 hu).1];exact hu)
theorem encAtC_ow{e:PtK×CoinV}(h:AtOKC e){j:Nat}{u:Value}(hu:(e.2.1.map B)[j]? = some u):(encAtC e)[33+j]? = some u:=
 encAtC_coin h (by unfold coinV;rw[List.getElem?_append_left (List.getElem?_eq_some_iff.1 hu).1];exact hu)
theorem rbytes19_any {A : Option Addr} {n c : Nat} {l : CoinsL} (w : World) (h : RowC w A n l) (hn : n ≤ 256) (hx : IxOK l) :
  Calls Tryz.prog 51 #[.slice A n c] w fun e w'=>∃A' c',e=.returned (.slice A' (bytesC l).length c')∧Sl w' w'.heap.size 1 A' (bytesC l).length ((bytesC l).map B)∧(bytesC l).length≤c'∧(bytesC l).length≤30000∧Grow w w':=by
 have HI6:=kp h;have HXL:=kp hx;have HIL2:=kp h.2.2;have HPT:=kq (bytesC l=numB n++l.flatMap putAt) (by unfold bytesC;rw[h.2.2]);obtain⟨out,hout⟩:=xe (bytesC l);rw[← hout]at HPT ⊢;obtain⟨w_,hw⟩:=xe w
 suffices H:Calls Tryz.prog 51 #[.slice A n c] w_ fun e w'=>∃A' c',e=.returned (.slice A' out.length c')∧Sl w' w'.heap.size 1 A' out.length (out.map B)∧out.length≤c'∧out.length≤30000∧Grow w w' by rw[hw]at H;exact H
 have HG:=kq (Grow w w_) (by rw[hw];exact Grow.refl _);obtain⟨Z,hZ⟩:=xe w.heap.size;have HZ:=kp hZ;clear hw h hx hout hZ;obtain⟨mn,hmn⟩:=xe ((numB n).length);have lmn:mn≤9:=by rw[hmn];exact numB_le (by omega)
 have HRN:=kp (fun w=>rnum_any n w (by omega));rw[← hmn]at HRN;clear hmn
 go_enter Tryz.func51,Tryz.ntmps51
 have q1:=conv_u64' (n:=n) (by omega);go_wp2_with fail;refine(HRN.o _).mono ?_;rintro e v_ ⟨A7,c7,rfl,ho_,hc_,y_⟩;have HW:=kq (OwnAt v_ Z A7 mn c7 ((numB n).map B)) (own_base ho_ (by rw[HZ.o];exact HG.o.size));replace HG:=kp (HG.o.grow' y_);clear ho_ hc_ y_ q1;try clear w_
 rename World=>w_;have HK1:=kq (numB n=numB n++(l.take 0).flatMap putAt) (by simp);go_wp2_with fail;go_loopw [3,4] (fun s3 iv wr=>∃k:Nat,∃A3 m c3 acc,k≤n∧iv=.int .i64 k∧s3=.slice A3 m c3∧m≤9+k*82∧Hid (OwnAt wr Z A3 m c3 (acc.map B)∧acc=numB n++(l.take k).flatMap putAt∧Grow w wr)) (fun _ iv _=>n - (intOf iv).toNat)
 case atStart=>exact⟨0,A7,mn,c7,numB n,by omega,rfl,rfl,by omega,kp ⟨HW.o,HK1.o,HG.o⟩⟩
 case round =>
  obtain⟨k,A3,m,c3,acc,hk,rfl,rfl,hm,hI⟩:=hrel;clear HW HG HK1;have HW:=kp hI.o.1;have HAC:=kp hI.o.2.1;have HG:=kp hI.o.2.2;clear hI;rename World=>w_;by_cases hlt:k < n
  ·obtain⟨b,off,p,rfl,hbl,hp,hok,hc⟩:=HI6.o.at_ hlt;have HSN:=kp (fm_snocR putAt hp);have hix:=HXL.o p (List.mem_of_getElem? hp);obtain⟨ix,hix1,hixl,hix2⟩:=natI (m:=15) hix.1 hix.2;obtain⟨am,ham,haml,ham2⟩:=natU hok.2.2.1 hok.2.2.2;obtain⟨tx,htx⟩:=xe p.1.1;obtain⟨ow,how⟩:=xe p.2.1;have HPI:=kq (putAt p=tx++numB ix++ow++numB am) (by unfold putAt;rw[hix2,ham2,← htx,← how]);have HDT:=kq (Dig (tx.map B) tx) ⟨rfl,by rw[htx];exact hok.1.1⟩;have HDO:=kq (Dig (ow.map B) ow) ⟨rfl,by rw[how];exact hok.2.1⟩;have HMC:=kp (fun w' (hb:Grow w w')=>show ∀j u,(encAtC p)[j]? = some u→w'.cell? ⟨b,off+k*66+j,none⟩=some u from fun j u hu=>(hb.cell (p:=⟨b,off+k*66+j,none⟩) hbl).trans (hc j u hu));have HE32:=kq ((encAtC p)[32]? = some (.int .i64 (ix:Int))) (by rw[encAtC_ix hok,hix1]);have HE65:=kq ((encAtC p)[65]? = some (.int .u64 (am:Int))) (by rw[encAtC_amt hok,ham]);have HET:=kq (∀j u,(tx.map B)[j]? = some u→(encAtC p)[0+j]? = some u) (fun j u hu=>encAtC_id hok (by rw[← htx];exact hu));have HEO:=kq (∀j u,(ow.map B)[j]? = some u→(encAtC p)[33+j]? = some u) (fun j u hu=>encAtC_ow hok (by rw[← how];exact hu));obtain⟨pv,hpv⟩:=xe (encAtC p);rw[← hpv]at HMC HE32 HE65 HET HEO;obtain⟨tb,htb⟩:=xe (tx.map B);rw[← htb]at HDT HET;obtain⟨ob,hob⟩:=xe (ow.map B);rw[← hob]at HDO HEO;obtain⟨mi,hmi⟩:=xe ((numB ix).length);have lmi:mi≤9:=by rw[hmi];exact numB_le (by omega)
   obtain⟨ma,hma⟩:=xe ((numB am).length);have lma:ma≤9:=by rw[hma];exact numB_le (by omega)
   have HRI:=kp (fun w=>rnum_any ix w (by omega));have HRA:=kp (fun w=>rnum_any am w (by omega));rw[← hmi]at HRI;rw[← hma]at HRA;clear hmi hma hp hc hok hix hix1 hix2 ham ham2 htx how hpv htb hob hbl;have hmb:m≤30000:=by omega
   have HMT:=kq (∀j u,tb[j]? = some u→w_.cell? ⟨b,off+k*66+0+j,none⟩=some u) (fun j u hu=>by have h1:=HMC.o w_ HG.o (0+j) u (HET.o j u hu);rw[← Nat.add_assoc]at h1;exact h1);go_wp2_with (with_reducible refine wlm 21 row_id HMT.o HDT.o.len ?_);clear HMT;go_wp2_with fail;refine(tbytes_any HDT.o _).mono ?_;rintro e v_ ⟨A7,c7,rfl,hs_,hc_,y_⟩;have HSL:=kp hs_;clear hs_ hc_;replace HG:=kp (HG.o.grow' y_);replace HW:=kp (HW.o.grow y_);clear y_;try clear w_
   rename World=>w_;have HZB:=kq (Z≤w_.heap.size) (by rw[HZ.o];exact HG.o.size);have HALL:=kp (all_bytes (tx));go_wp2_with (at_builtin;refine wpl_apps rfl rfl el_u8 HW.o rfl HSL.o rfl HALL.o (by omega) (by omega) HZB.o ?_);intro A8 c8 w3_ ho_ x_ hA_;have hst:=accR HG.o HZ.o HW.o ho_ x_;obtain⟨m1,hm1⟩:=xe (m+32);obtain⟨a1,ha1⟩:=xe (acc++tx);have hb1:m1≤m+32:=by omega
   rw[← hm1,← ha1]at hst;rw[← hm1];have HK1:=kp ha1;clear ho_ x_ hA_ HW HG HSL HZB HALL;have HW:=kp hst.1;have HG:=kp hst.2;clear hst hm1 ha1;try clear w_
   rename World=>w_;have c1:=HMC.o w_ HG.o _ _ HE32.o;have q1:=conv_u64' (n:=ix) (by omega);go_wp2_with fail;refine(HRI.o _).mono ?_;rintro e v_ ⟨A7,c7,rfl,ho_,hc_,y_⟩;have HSL:=kp (Sl.of_own ho_);clear ho_ hc_;replace HG:=kp (HG.o.grow' y_);replace HW:=kp (HW.o.grow y_);clear y_;try clear w_
   rename World=>w_;clear c1 q1;have HZB:=kq (Z≤w_.heap.size) (by rw[HZ.o];exact HG.o.size);have HALL:=kp (all_bytes (numB ix));go_wp2_with (at_builtin;refine wpl_apps rfl rfl el_u8 HW.o rfl HSL.o rfl HALL.o (by omega) (by omega) HZB.o ?_);intro A8 c8 w3_ ho_ x_ hA_;have hst:=accR HG.o HZ.o HW.o ho_ x_;obtain⟨m2,hm2⟩:=xe (m1+mi);obtain⟨a2,ha2⟩:=xe (a1++numB ix);have hb2:m2≤m+41:=by omega
   rw[← hm2,← ha2]at hst;rw[← hm2];have HK2:=kp ha2;clear ho_ x_ hA_ HW HG HSL HZB HALL;have HW:=kp hst.1;have HG:=kp hst.2;clear hst hm2 ha2;try clear w_
   rename World=>w_;have HMT:=kq (∀j u,ob[j]? = some u→w_.cell? ⟨b,off+k*66+33+j,none⟩=some u) (fun j u hu=>by have h1:=HMC.o w_ HG.o (33+j) u (HEO.o j u hu);rw[← Nat.add_assoc]at h1;exact h1);go_wp2_with (with_reducible refine wlm 40 row_id HMT.o HDO.o.len ?_);clear HMT;go_wp2_with fail;refine(tbytes_any HDO.o _).mono ?_;rintro e v_ ⟨A7,c7,rfl,hs_,hc_,y_⟩;have HSL:=kp hs_;clear hs_ hc_;replace HG:=kp (HG.o.grow' y_);replace HW:=kp (HW.o.grow y_);clear y_;try clear w_
   rename World=>w_;have HZB:=kq (Z≤w_.heap.size) (by rw[HZ.o];exact HG.o.size);have HALL:=kp (all_bytes (ow));go_wp2_with (at_builtin;refine wpl_apps rfl rfl el_u8 HW.o rfl HSL.o rfl HALL.o (by omega) (by omega) HZB.o ?_);intro A8 c8 w3_ ho_ x_ hA_;have hst:=accR HG.o HZ.o HW.o ho_ x_;obtain⟨m3,hm3⟩:=xe (m2+32);obtain⟨a3,ha3⟩:=xe (a2++ow);have hb3:m3≤m+73:=by omega
   rw[← hm3,← ha3]at hst;rw[← hm3];have HK3:=kp ha3;clear ho_ x_ hA_ HW HG HSL HZB HALL;have HW:=kp hst.1;have HG:=kp hst.2;clear hst hm3 ha3;try clear w_
   rename World=>w_;have c1:=HMC.o w_ HG.o _ _ HE65.o;go_wp2_with fail;refine(HRA.o _).mono ?_;rintro e v_ ⟨A7,c7,rfl,ho_,hc_,y_⟩;have HSL:=kp (Sl.of_own ho_);clear ho_ hc_;replace HG:=kp (HG.o.grow' y_);replace HW:=kp (HW.o.grow y_);clear y_;try clear w_
   rename World=>w_;clear c1;have HZB:=kq (Z≤w_.heap.size) (by rw[HZ.o];exact HG.o.size);have HALL:=kp (all_bytes (numB am));have v1:IntKind.i64.wrap ((k:Int)+1)=(k:Int)+1:=IntWalk.i64_in _ (by omega);go_wp2_with (at_builtin;refine wpl_apps rfl rfl el_u8 HW.o rfl HSL.o rfl HALL.o (by clear v1;omega) (by clear v1;omega) HZB.o ?_);intro A8 c8 w3_ ho_ x_ hA_;have hst:=accR HG.o HZ.o HW.o ho_ x_;have HAN:=kq (a3++numB am=numB n++(l.take (k+1)).flatMap putAt) (by rw[HSN.o,HPI.o,HK3.o,HK2.o,HK1.o,HAC.o];simp only [List.append_assoc]);have HREL:=kq (OwnAt w3_ Z A8 (m3+ma) c8 ((a3++numB am).map B)∧a3++numB am=numB n++(l.take (k+1)).flatMap putAt∧Grow w w3_) ⟨hst.1,HAN.o,hst.2⟩;have HBD:=kq (m3+ma≤9+(k+1)*82) (by clear v1;omega);clear ho_ x_ hA_ hst HW HG HSL HZB HALL;go_wp2_with fail;go_roundw
   all_goals clear v1
   case rel=>exact⟨k+1,A8,m3+ma,c8,a3++numB am,by omega,by go_num,by first|rfl|simp,HBD.o,HREL⟩
   case measure=>simp [intOf];omega
  ·obtain rfl:k=n:=by omega
   have HAE:=kq (acc=out) (by have h:=HAC.o;rw[List.take_of_length_le (by rw[HIL2.o];exact Nat.le_refl _)] at h;rw[HPT.o];exact h);have HLEN:=kq (acc.length=m) (by have:=HW.o.1;simp at this;omega);have HSF:=kp (Sl.of_own HW.o);have HCF:=kp (own_cap1 HW.o);go_wp2_with fail;go_ret
   refine⟨A3,c3,by rw[← HAE.o,HLEN.o];rfl,by rw[← HAE.o,HLEN.o];exact HSF.o,by rw[← HAE.o,HLEN.o];exact HCF.o,by rw[← HAE.o,HLEN.o];omega,HG.o⟩
open Go.RowKit Go.Maps Go.Sort Go.Shelf
theorem kkC1_in (F : Fence) (n : Nat) (h10 : F.fn 121) (hro : F.round = none) (hn : 1 ≤ n) (l Bm b clock : Nat) (es : Array MapEntry) (hE : ∀ en ∈ es.toList, ∃ p : PtS, en.key = encPV p) (hk : MapOK Tryz.prog 69 es clock) (J : List PtS → World → Prop)
  (hY:∀pre x W,J pre W→pre.length < es.size→YieldAt F (n - 1) Tryz.prog l #[encPV x] W fun e W'=>e=.returned (.bool true)∧J (pre++[x]) W'∧KeepsWalks W W')
  (W:World) (hJ:AbidesFrom W.heap.size J) (hm:W.cell? ⟨Bm,0,none⟩=some (.map (some b))) (hb:W.heap[b]? = some (.map es clock)) (h0:J [] W) :
  CallsIn F n Tryz.prog 121 #[.func (.yield l) #[] #[],.pointer (some ⟨Bm,0,none⟩)] W fun e W'=>(∃v,e=.returned v)∧∃ss:List PtS,ss.Perm (es.toList.map dkP)∧J ss W':=by
 have HK:=kp hk;have HE:=kp hE;have HY:=kp hY;have HJ:=kp hJ;have HZL:=kq ((ptV (pt 0)).length=33) (ptV_length (pt_ok 0 (by decide)).1);clear hk hE hY hJ;obtain⟨sz,hsz⟩:=xe W.heap.size;have HSZ:=kp hsz;clear hsz;refine callsIn_of_wp Tryz.func121 rfl h10 ?_ hro;simp only [Tryz.ntmps121,List.size_toArray,List.length_cons,List.length_nil,Nat.reduceAdd,Nat.reduceSub,Array.replicate_succ,Array.replicate_zero,List.push_toArray,List.append_toArray,List.nil_append,List.cons_append]
 gi_wp2_with (first
  |(gi_at_range;refine wpi_range (o:=⟨some 5,_,_,_,_,_⟩) _ rfl rfl Tryz.underlying88 rfl hb HK.o ?_;intro w0 hrg0 hg0 hs0)
  | gi_in)
 rw[← HSZ.o]at hrg0 ⊢;have hJ0:J [] w0:=HJ.o [] W w0 none h0 hg0 (fun r e=>by cases e);clear h0 hg0 hs0;have HR0:=kp hrg0;have HJ0:=kp hJ0;clear hrg0 hJ0 hb hm
 go_frame
 gi_loopw [3] (fun _ wr=>∃vs,Hid (ItAt wr b sz es clock vs∧J (vs.map dkP) wr)) (fun _ wr=>itLeft wr b sz)
 case atStart=>exact⟨[],kp ⟨HR0.o,HJ0.o⟩⟩
 case round =>
  obtain⟨vs,HREL⟩:=hrel
  gi_wp2_with (first
   |(gi_at_next;refine wpi_next (o:=⟨some 6,_,_,_,_,_⟩) _ rfl rfl rfl HREL.o.1 HK.o ?_ ?_)
   | gi_in)
  ·intro hperm;have HP:=kp hperm;clear hperm
   gi_wp2
   go_end0
   exact⟨⟨_,rfl⟩,_,HP.o.map _,HREL.o.2⟩
  ·intro en w2 hen hit2 hlt hg2 hs2 hent;obtain⟨x,hx⟩:=HE.o en (Array.mem_toList_iff.2 hen);have hdk:dkP en=x:=by unfold dkP;rw[hx,decP_enc]
   have hJ2:J (vs.map dkP) w2:=HJ.o _ wr w2 (some sz) HREL.o.2 hg2 (fun r e=>by cases e;exact⟨Nat.le_of_eq HSZ.o.symm,HREL.o.1.walk⟩);have HI2:=kp hit2;have HJ2:=kp hJ2;have HD:=kp hdk;have HLT:=kp hlt;have hlen:=HI2.o.left_eq;have hlen0:=HREL.o.1.left_eq;have HM:=kq (itLeft w2 b sz < itLeft wr b sz) (by rw[hlen,hlen0];simp only [List.length_append,List.length_singleton];omega);rw[hx]at hent;unfold encPV at hent hx;have HX:=kp hx;have HLX:=kp (encPt_len x);have HOX:=kp (encPt_one x);obtain⟨xs,hxs⟩:=xe (encPt x);have HXE:=kp hxs;rw[← hxs]at hent HLX HOX HX;rw[HX.o];clear hen hit2 hg2 hs2 hx hdk hJ2 hlen hlen0 hlt hxs
   gi_wp2_with (first|(with_reducible refine wpi_alloc (o:=⟨some 3,_,_,_,_,_⟩) rfl rfl zero_pt ?_)|gi_in)
   intro V1 hb1 hV1;have HB1:=kp hb1;have HG1:=kq (w2.grownBy V1 none) (by rw[hV1];exact World.grownBy_alloc _ _ none);have HK1:=kq (KeepsWalks w2 V1) (by rw[hV1];exact KeepsWalks.alloc _ _);clear hb1 hV1 hent;obtain⟨gv,hgv⟩:=xe w2.heap.size;rw[← hgv]at HB1 ⊢;have HGV:=kp hgv;clear hgv
   gi_wp2_with (first|(with_reducible refine wpi_storeb (o:=⟨none,.store _ _ _,_,_,_,_⟩) rfl rfl row_point HB1.o rfl rfl HZL.o HLX.o HOX.o ?_)|gi_in)
   intro V2 hb2 hg2 hsz2;have HB2:=kp hb2;have HG2:=kq (w2.grownBy V2 none) (grownBy_drop (grownBy_trans0 (grownBy_up HG1.o) hg2) (Nat.le_of_eq HGV.o.symm));have HK2:=kq (KeepsWalks w2 V2) (HK1.o.trans (KeepsWalks.of_grownBy hg2 (fun j o hj ho=>by cases hj;rw[HB1.o]at ho;cases ho;rfl)));clear hb2 hg2 hsz2 HB1 HG1 HK1;have HJ3:=kq (J (vs.map dkP) V2) (HJ.o _ w2 V2 none HJ2.o HG2.o (fun r e=>by cases e));have HI3:=kp (HI2.o.of_walks HK2.o);have hpl:(vs.map dkP).length < es.size:=by rw[List.length_map];exact HLT.o
   obtain⟨fn,tmps,assign,body,hy,hR⟩:=HY.o (vs.map dkP) x V2 HJ3.o hpl;unfold encPV at hy;rw[← HXE.o]at hy;clear hpl
   gi_wp2_with (first|(with_reducible refine wpi_loadb (o:=⟨some 11,_,_,_,_,_⟩) rfl rfl row_point HB2.o rfl HLX.o ?_)|gi_in)
   refine hR.mono ?_;rintro e W3 ⟨rfl,hJ4,hk4⟩;have HI4:=kp (HI3.o.of_walks hk4);have HR4:=kq (ItAt W3 b sz es clock (vs++[en])∧J ((vs++[en]).map dkP) W3) ⟨HI4.o,by rw[List.map_append,List.map_cons,List.map_nil,HD.o];exact hJ4⟩;clear hJ4 hk4 hR hy
   gi_wp2
   have HM4:=kq (itLeft W3 b sz=itLeft w2 b sz) (by rw[HI4.o.left_eq,HI2.o.left_eq]);go_roundw
   case rel=>exact⟨_,HR4⟩
   case measure=>rw[HM4.o];exact HM.o
theorem kkC_any (m : Option Nat) (w : World) :
  Calls Tryz.prog 107 #[.map m] w fun e w'=>e=.returned (.func (.func 121) #[] #[.pointer (some ⟨w.heap.size,0,none⟩)])∧w'.cell? ⟨w.heap.size,0,none⟩=some (.map m)∧Below w.heap.size w w'∧w.heap.size < w'.heap.size:=by
 go_enter Tryz.func107,Tryz.ntmps107
 go_wp2
 go_ret
 refine⟨rfl,?_,(Below.refl _ w).alloc (Nat.le_refl _) _,by simp⟩;unfold World.cell?;rw[heap_alloc_new]
 rfl
theorem kkC_gives (n : Nat) (hn : 1 ≤ n) (Bm b clock : Nat) (es : Array MapEntry) (hE : ∀ en ∈ es.toList, ∃ p : PtS, en.key = encPV p) (hk : MapOK Tryz.prog 69 es clock) (w : World) (hBm : Bm < w.heap.size)
  (hm:w.cell? ⟨Bm,0,none⟩=some (.map (some b))) (hb:w.heap[b]? = some (.map es clock)) :
  SeqGives Fence.wide n Tryz.prog 121 #[.pointer (some ⟨Bm,0,none⟩)] encPV (fun ss=>ss.Perm (es.toList.map dkP)) es.size w:=fun l J W hW hJ hY h0 =>
 kkC1_in Fence.wide n trivial rfl hn l Bm b clock es hE hk J hY W hJ ((hW.cell (p:=⟨Bm,0,none⟩) hBm).trans hm) ((hW.block b (Array.getElem?_eq_some_iff.1 hb).1).trans hb) h0
theorem kvs_ptsC{es:Array MapEntry}{L:CoinsL}(h:kvs es=encC L)(hl:LOK L):(es.toList.map dkP).map (·.1)=L.map (·.1):=by
 have e1:(es.toList.map dkP).map (·.1)=(kvs es).map (fun p=>(decP p.1).1):=by unfold kvs;rw[List.map_map,List.map_map];rfl
 rw[e1,h];unfold encC;rw[List.map_map];refine List.map_congr_left fun e he=>?_
 exact decP_pt (hl.1 e he).1
theorem kvs_encPC{es:Array MapEntry}{L:CoinsL}(h:kvs es=encC L)(hl:LOK L):∀en∈es.toList,∃p:PtS,en.key=encPV p:=by
 intro en hen;have:(en.key,en.val)∈kvs es:=List.mem_map.2 ⟨en,hen,rfl⟩;rw[h]at this;obtain⟨e,he,hee⟩:=List.mem_map.1 this;exact⟨⟨e.1,(hl.1 e he).1⟩,by simp only [Prod.mk.injEq]at hee;exact hee.1.symm⟩
theorem call_any (g b : Nat) (L : CoinsL) (s : Int) (w : World) (h : CoinsAt w g b L s) (hn : L.length ≤ 1000000) :
  Calls Tryz.prog 82 #[.pointer (some ⟨g,0,none⟩)] w fun e w'=>∃(v:Value) (ks:List PtS),e=.returned v∧(ks.map (·.1)).Perm (L.map (·.1))∧(∃ss,ks=sortP ss)∧w'.ownsRow w.heap.size 69 33 v ks.length (ks.flatMap encPt)∧Below w.heap.size w w':=by
 have HH:=kp h;have c1:=h.blk.at_ (i:=0) rfl;clear h
 go_enter Tryz.func82,Tryz.ntmps82
 go_wp2_with fail;refine(kkC_any (some b) w).mono ?_;rintro e w1 ⟨rfl,hm,hb,hlt⟩;have HM:=kp hm;have HB:=kp hb;have HLT:=kp hlt;have HH1:=kp (HH.o.call hb);clear hm hb hlt c1;obtain⟨es,clock,h3,h4,h5⟩:=HH1.o.map;have HP:=kp (kvs_ptsC h5 HH1.o.ok);have hsz:es.size=L.length:=by rw[← kvs_length,h5];simp [encC]
 have HS:=kp (sfdP_any 121 #[.pointer (some ⟨w.heap.size,0,none⟩)] (enters_of Tryz.func121 (by kernel_rfl) rfl) _ es.size (by omega) w1 (kkC_gives 1 (by omega) w.heap.size b clock es (kvs_encPC h5 HH1.o.ok) h4 w1 HLT.o HM.o h3));clear h3 h4 h5 hsz;obtain⟨zz,hzz⟩:=xe w.heap.size;rw[← hzz]at HS HB ⊢;have HZ:=kp hzz;clear hzz;go_wp2_with fail;refine HS.o.mono ?_;rintro e w2 ⟨v,ss,rfl,hS,hrow,hnil,hb2⟩;have HR2:=kp hrow;have HB2:=kp hb2;have HS2:=kp hS;clear hS hrow hnil hb2 HS;go_wp2_with fail;go_ret
 refine⟨v,sortP ss,rfl,?_,⟨ss,rfl⟩,?_,?_⟩
 ·rw[← HP.o];exact((sortP_perm ss).trans HS2.o).map _
 ·rw[sortP_len];have:=HR2.o;exact⟨this.1,this.2.imp id (fun⟨a,b',c,h1,h2,h3⟩=>⟨a,b',c,h1,Nat.le_trans HB.o.size h2,h3⟩)⟩
 ·have hq:=HB.o.trans (HB2.o.mono (by rw[HZ.o];exact HB.o.size));rw[HZ.o]at hq;exact hq
theorem CoinsAt.look0 {w : World} {g b : Nat} {L : CoinsL} {s : Int} (h : CoinsAt w g b L s) {p : PtK} (hp : PtOK p) :
  ∃c:CoinV,CoinOK c∧c=(lookC L p).getD noCoin∧(Instr.lookup 88 (.map (some b)) (ptA p) false).run Tryz.prog w=.ok (coinA c) w:=by
 obtain⟨hb1,⟨es,clock,h3,h4,h5⟩,⟨h6,h6'⟩,h7⟩:=h;obtain⟨lx,hx⟩:=keyOf_pt p hp;unfold lookC;cases hf:L.find? (fun e=>e.1 == p) with
 | none =>
  refine⟨noCoin,noCoin_ok,rfl,?_⟩;refine lookup0_nok kl_point Tryz.underlying88 h3 h4 hx ?_ zeroV_coin;intro q hq e;rw[h5]at hq;obtain⟨en,hen,rfl⟩:=List.mem_map.1 hq;have:=List.find?_eq_none.1 hf en hen;exact this (by simpa using ptA_inj (h6 en hen).1.1 hp.1 e)
 | some en =>
  have hmem:=List.mem_of_find?_eq_some hf;have hkey:en.1=p:=by simpa using List.find?_some hf
  refine⟨en.2,(h6 en hmem).2,rfl,?_⟩;obtain⟨j,hj,hje⟩:=List.getElem_of_mem hmem;have e1:(kvs es)[j]? = some (ptA en.1,coinA en.2):=by rw[h5];unfold encC;rw[List.getElem?_map,List.getElem?_eq_getElem hj,hje];rfl
  unfold kvs at e1;rw[List.getElem?_map]at e1;obtain⟨me,hme,hmm⟩:=Option.map_eq_some_iff.1 e1;simp only [Prod.mk.injEq]at hmm;have:=lookup0_yesk kl_point Tryz.underlying88 h3 h4 hx (j:=j) (en:=me) (by simpa using hme) (by rw[hmm.1,hkey]);rw[hmm.2]at this;exact this
theorem CoinsAt.grow{w w':World}{g b:Nat}{L:CoinsL}{s:Int}(h:CoinsAt w g b L s)(k:Grow w w'):CoinsAt w' g b L s:=h.call k
theorem CoinsAt.keptK{K:Nat→Prop}{w w':World}{g b:Nat}{L:CoinsL}{s:Int}(h:CoinsAt w g b L s)(k:Kept K w w')(h1:K g)(h2:K b):CoinsAt w' g b L s:=by
 obtain⟨q1,⟨es,clock,q2,q3,q4⟩,q5,q6⟩:=h;exact⟨k.blk q1 h1,⟨es,clock,(k.block b h2).trans q2,q3,q4⟩,q5,q6⟩
open Go.RowKit Go.Shelf
def out22:Outp:=⟨zeroD,5⟩
def tA22:Txn:=⟨[inp7],[out22],0,0⟩
def p22:PtK:=(zeroD,0)
def c22:CoinV:=(ownerB [],5)
theorem chk22:checkT tA22=0:=by decide
theorem here22:hereI tA22 1 0=[0]:=by
 unfold hereI shrI;rw[if_pos ⟨chk22,by omega,by omega⟩];show placesI [shd inp7.pt 1] 0=[0]
 rw[shd_one];decide
theorem p22_ok:PtOK p22:=⟨by simp [p22,zeroD],by decide⟩
theorem c22_ok:CoinOK c22:=⟨sha_length _,by simp [c22],by simp [c22]⟩
theorem l22_ok:LockOK (cn 5,idx 1):=⟨cn_ok 5 (by omega) (by omega),idx_len 1⟩
theorem put22:rputC [] p22 c22=([(p22,c22)],0):=by simp [rputC,p22,c22,lookC,insC,amtC]
theorem putR22:putR [] 0 p22 c22=0:=by simp [putR,p22,c22,lookC,addE]
theorem putK22:rputK [] p22 (cn 5,idx 1)=([(p22,(cn 5,idx 1))],0):=by simp [rputK,p22,cn,lookL,insK,amtK]
theorem putQ22:putQ [] 0 p22 (cn 5)=0:=by simp [putQ,p22,cn,lookL,addE]
theorem rel22:RelC [(p22,c22)] [(p22,c22)] 5:=by
 have h:=RelC.nil.put p22_ok c22_ok putR22;rw[put22]at h;have e:(addE 0 c22.2).1=5:=by simp [addE,c22]
 rw[e]at h;exact h
theorem relK22:RelK [(p22,(cn 5,idx 1))] [(p22,(cn 5,idx 1))] 5:=by
 have h:=RelK.nil.put p22_ok l22_ok putQ22;rw[putK22]at h;have e:(addE 0 (cn 5).2).1=5:=by simp [addE,cn]
 have e':(addE 0 (cn 5,idx 1).1.2).1=5:=e;rw[e']at h;exact h
theorem in22a:inputsR [(p22,c22)] [(p22,(cn 5,idx 1))] tA22 1 0=(0,14):=by
 unfold inputsR;rw[chk22,here22]
 have e:inputE [(p22,c22)] [(p22,(cn 5,idx 1))] inp7=14:=by
  unfold inputE;rw[if_pos];show(lookL [(p22,(cn 5,idx 1))] p22).isSome=true
  simp [lookL]
 simp [sumsR,tA22,e]
theorem in22b:inputsR [(p22,c22)] [] tA22 1 0=(5,0):=by
 unfold inputsR;rw[chk22,here22]
 have e:inputE [(p22,c22)] [] inp7=0:=by
  have h1:lookC [(p22,c22)] inp7.pt=some c22:=by
   show lookC [(p22,c22)] p22=some c22
   simp [lookC]
  unfold inputE;rw[h1];simp [lookL,c22,inp7]
 have e2:w64 (0+5)=5:=by decide
 simp [sumsR,tA22,e];exact e2
theorem pay22:payX [(p22,c22)] [] tA22 1 0=[]:=by
 unfold payX;rw[in22b,here22];have:ptsOf tA22.ins [0]=[p22]:=rfl;rw[if_neg (by decide),this];simp [cutsC,cutC]
theorem pay22a:payX [(p22,c22)] [(p22,(cn 5,idx 1))] tA22 1 0=[(p22,c22)]:=by
 unfold payX;rw[in22a,if_pos (by decide)]
theorem rest22:restK [(p22,(cn 5,idx 1))] (idx 1)=[]:=by simp [restK]
theorem bt_tx22{A A2:Option Addr}{n c n2 c2:Nat}:Tryz.prog.built 27 [(0,.slice A n c),(1,.slice A2 n2 c2)]=some (txV A n c A2 n2 c2 0 0).toArray:=by
 rw[built_tx0,fill_cons (off:=0) (s:=1) (cs:=[.slice A n c]) rfl rfl rfl (by simp [txV]),fill_cons (off:=1) (s:=1) (cs:=[.slice A2 n2 c2]) rfl rfl rfl (by simp [txV,splice]),fill_nil];rfl
theorem built_coin8(parts:List (Nat×Value)):Tryz.prog.built 77 parts=Instr.fill (fun i=>(#[(0,32),(32,1)]:Array (Nat×Nat))[i]?) (coinV noCoin).toArray parts:=by kernel_rfl
theorem bt_coin8{xs:List Value}{z:Int}(h:xs.length=32):Tryz.prog.built 77 [(0,.agg xs.toArray),(1,.int .u64 z)]=some (xs++[Value.int .u64 z]).toArray:=by
 rw[built_coin8,fill_cons (off:=0) (s:=32) (cs:=xs) (by simp) rfl h (by rw[coinV_length noCoin_ok];omega)]
 have e:splice (coinV noCoin) 0 xs=xs++[Value.int .u64 0]:=by
  rw[show coinV noCoin=[]++((List.replicate 32 (0:UInt8)).map B++[Value.int .u64 0]) from rfl,splice_mid (off:=0) (by rfl) (by simp [h])];rfl
 rw[e,fill_cons (off:=32) (s:=1) (cs:=[Value.int .u64 z]) (by simp) rfl rfl (by simp [h]),fill_nil];rw[show xs++[Value.int .u64 0]=xs++([Value.int .u64 0]++[]) from by simp,splice_mid (off:=32) (by simp [h]) (by simp)];simp
theorem bt_p22:Tryz.prog.built 69 []=some (ptV p22).toArray:=by kernel_rfl
theorem bt_i22:Tryz.prog.built 46 [(0,.int .u8 1)]=some ((idx 1).map B).toArray:=by kernel_rfl
theorem bt_c22:Tryz.prog.built 77 [(1,.int .u64 5)]=some (coinV (cn 5)).toArray:=by kernel_rfl
theorem tx22{w:World}{r1 r2:Nat}{t1 t2:TypeId}(h1:Blk w r1 t1 (inV nilS inp7))(h2:Blk w r2 t2 (outV out22)):TxAt w (txV (some ⟨r1,0,none⟩) 1 1 (some ⟨r2,0,none⟩) 1 1 0 0) tA22:=
 ⟨_,_,_,_,_,_,_,_,[(nilS,inp7)],[out22],rfl,rfl,
  ⟨by have h:=Blk.sl (sz:=35) (n:=1) h1 rfl;exact h,fun p hp=>by rw[List.mem_singleton.1 hp];exact⟨⟨none,0,rfl,Nat.le_refl _,Sl.nil⟩,by simp [inp7,Inp.ok,zeroD,I64,U64]⟩,rfl,Nat.le_refl _⟩,
  ⟨by have h:=Blk.sl (sz:=33) (n:=1) h2 rfl;exact h,fun p hp=>by rw[List.mem_singleton.1 hp];simp [out22,Outp.ok,zeroD,U64],rfl,Nat.le_refl _⟩,by omega,by omega,by simp [U64],by simp [I64]⟩
theorem RelC.nilL{L:CoinsL}{s:Int}(h:RelC [] L s):L=[]:=List.Perm.eq_nil h.perm.symm
theorem awake22_any(w:World)(ht:Tabs w):Calls Tryz.prog 8 #[] w fun e w'=>e=.returned (.bool true)∧Grow w w':=by
 have HTT:=kp (fun w' (k:Grow w w')=>ht.grow k);have HB:=kp (Below.refl w.heap.size w);have HRO:=kp (fun w'=>rtowner_any (A:=none) (n:=0) (c:=0) (bs:=[]) (zs:=(ownerB []).map B) ⟨rfl,sha_length _⟩ w' Sl.nil (by omega));have T1:=kp bt_p22;have T2:=kq (Tryz.prog.built 77 [(0,.agg ((ownerB []).map B).toArray),(1,.int .u64 5)]=some (coinV c22).toArray) (by rw[bt_coin8 (by rw[List.length_map];exact sha_length _)];rfl);have T3:=kp bt_i22;have T4:=kp bt_c22;have HPU:=kp (fun w' g b (h:CoinsAt w' g b [] 0)=>put_any g b [] 0 p22 c22 w' h p22_ok c22_ok (by omega) (by omega));have HKU:=kp (fun w' g b (h:LocksAt w' g b [] 0)=>kput_any g b [] 0 p22 (idx 1) (cn 5) w' h p22_ok (idx_len 1) (cn_ok 5 (by omega) (by omega)) (by omega) (by omega));rw[putR22]at HPU;rw[putQ22]at HKU;unfold ptA coinA at HPU HKU;have HE5:=kq ((addE 0 c22.2).1=5∧(addE 0 (cn 5).2).1=5) ⟨by simp [addE,c22],by simp [addE,cn]⟩;have HFA:=kp (fun w' g2 b2 (h:LocksAt w' g2 b2 [(p22,(cn 5,idx 1))] 5)=>free_any (idx_len 1) w' h relK22);rw[rest22]at HFA;obtain⟨cs,hcs⟩:=xe (coinV c22);rw[← hcs]at T2 HPU;obtain⟨c5,hc5⟩:=xe (coinV (cn 5));rw[← hc5]at T4 HKU;obtain⟨is,his⟩:=xe ((idx 1).map B);rw[← his]at T3 HKU HFA;obtain⟨zs,hzs⟩:=xe ((ownerB []).map B);rw[← hzs]at T2 HRO;obtain⟨ps,hps⟩:=xe (ptV p22);rw[← hps]at T1 HPU HKU;clear hcs hc5 his hzs hps ht
 go_enter Tryz.func8,Tryz.ntmps8
 go_wp2_with fail;refine(new_any _).mono ?_;rintro e w1 ⟨g,b,rfl,hc,hg,hb,hbw⟩;have HC:=kp hc;have HGB:=kq (w.heap.size≤g∧w.heap.size≤b) ⟨hg,hb⟩;replace HB:=kp (HB.o.grow' hbw);clear hc hg hb hbw;go_wp2_with fail;refine(knew_any _).mono ?_;rintro e w2 ⟨g2,b2,rfl,hk,hg,hb,hbw⟩;have HK:=kp hk;have HNE:=kq (g2∉[g,b]∧b2∉[g,b]∧g∉[g2,b2]∧b∉[g2,b2]) (by have h1:=HC.o.ltg;have h2:=HC.o.ltb;simp;omega);have HGB2:=kq (∀x∈[g2,b2],w.heap.size≤x) (fun x hx=>by have:=HB.o.size;simp only [List.mem_cons,List.not_mem_nil,or_false]at hx;rcases hx with rfl|rfl <;> omega);have HGB1:=kq (∀x∈[g,b],w.heap.size≤x) (fun x hx=>by have:=HGB.o;simp only [List.mem_cons,List.not_mem_nil,or_false]at hx;rcases hx with rfl|rfl <;> omega);replace HC:=kp (HC.o.grow hbw);replace HB:=kp (HB.o.grow' hbw);clear hk hg hb hbw HGB;try clear w1
 rename World=>w_;go_wp2_with (with_reducible refine wst 14 ?_);refine stop_go ?_;generalize hw1:World.alloc w_ _=w1;generalize hw2:World.alloc w1 _=w2;obtain⟨hX1,hb1,hs1⟩:=alloc_eq hw1;obtain⟨hX2,hb2,hs2⟩:=alloc_eq hw2;rw[hs1]at hX2;have HX1:=kq (At w2 w_.heap.size 72 35 (inV nilS inp7)) ⟨hX1.grow hb2,rfl⟩;have HX2:=kq (At w2 (w_.heap.size+1) 74 33 (outV out22)) ⟨hX2,rfl⟩;have HG12:=kp (Grow.trans _ _ _ hb1 hb2)
 have HLT:=kp (show ∀x∈[g,b,g2,b2],x < w_.heap.size from fun x hx=>by
  have h1:=HC.o.ltg;have h2:=HC.o.ltb;have h3:=HK.o.ltg;have h4:=HK.o.ltb
  simp only [List.mem_cons,List.not_mem_nil,or_false]at hx;rcases hx with rfl|rfl|rfl|rfl <;> omega)
 have HT3:=kp (bt_tx22 (A:=some ⟨w_.heap.size,0,none⟩) (n:=1) (c:=1) (A2:=some ⟨w_.heap.size+1,0,none⟩) (n2:=1) (c2:=1));have HTC:=kp (txV_cl (A:=some ⟨w_.heap.size,0,none⟩) (n:=1) (c:=1) (A2:=some ⟨w_.heap.size+1,0,none⟩) (n2:=1) (c2:=1) (fee:=0) (ex:=0));have HTA:=kp (fun w' (h1:At w' w_.heap.size 72 35 (inV nilS inp7)) (h2:At w' (w_.heap.size+1) 74 33 (outV out22))=>tx22 h1.blk h2.blk);obtain⟨tv,htv⟩:=xe (txV (some ⟨w_.heap.size,0,none⟩) 1 1 (some ⟨w_.heap.size+1,0,none⟩) 1 1 0 0);rw[← htv]at HT3 HTC HTA;replace HC:=kp (HC.o.grow HG12.o);replace HK:=kp (HK.o.grow HG12.o);replace HB:=kp (HB.o.grow' HG12.o);clear hw1 hw2 hX1 hX2 hb1 hb2 hs1 hs2 htv HG12;refine wpl_build rfl rfl HT3.o ?_;clear HT3;obtain⟨r1,hr1⟩:=xe w_.heap.size;rw[← hr1]at HX1 HX2 HLT HTA ⊢;clear hr1 w1;try clear w_
 rename World=>w_;go_wp2_with (with_reducible first|refine wpl_alloc (o:=⟨some 3,_,_,_,_,_⟩) rfl rfl zero_tx ?_);intro w1_ hb1_ hbw1_ hsz1_;have HB1_:=kp (at_mk hb1_ len_tx);have HBW1_:=kp hbw1_;have HZ1_:=kp hsz1_;clear hb1_ hbw1_ hsz1_;go_wp2_with (with_reducible refine wsb row_tx HB1_.o.blk HB1_.o.len HTC.o.len HTC.o.one ?_);intro v_ b_ g_ s_;have y_:=var_grow HBW1_.o HZ1_.o g_;have HX_:=kp (at_mk b_ HTC.o.len);clear b_ g_ s_ HB1_ HBW1_ HZ1_;replace HB:=kp (HB.o.grow' y_);replace HX1:=kp (HX1.o.grow y_);replace HX2:=kp (HX2.o.grow y_);replace HC:=kp (HC.o.grow y_);replace HK:=kp (HK.o.grow y_);generalize x_:w_.heap.size=g3 at HX_ ⊢;clear x_;have HX:=HX_;clear y_ HX_;clear w1_;try clear w_
 rename World=>w_;have HNC:=kp (fun w' L s (h:CoinsAt w' g b L s) (h0:At w' g3 27 4 tv) (h1:At w' r1 72 35 (inV nilS inp7)) (h2:At w' (r1+1) 74 33 (outV out22))=>show g3∉[g,b]∧r1∉[g,b]∧r1+1∉[g,b] from⟨h0.ne_coins h (by decide),h1.ne_coins h (by decide),h2.ne_coins h (by decide)⟩);have HNK:=kp (fun w' L s (h:LocksAt w' g2 b2 L s) (h0:At w' g3 27 4 tv) (h1:At w' r1 72 35 (inV nilS inp7)) (h2:At w' (r1+1) 74 33 (outV out22))=>show g3∉[g2,b2]∧r1∉[g2,b2]∧r1+1∉[g2,b2] from⟨h0.ne_locks h (by decide),h1.ne_locks h (by decide),h2.ne_locks h (by decide)⟩);go_wp2_with (with_reducible refine wst 23 ?_);refine stop_go ?_;refine wpl_buildg (by first|rfl|(go_simp;done)|fail) rfl T1.o ?_;go_wp2_with fail;refine(HRO.o _).mono ?_;rintro e w_ ⟨rfl,y_⟩;replace HB:=kp (HB.o.grow' y_);replace HX:=kp (HX.o.grow y_);replace HX1:=kp (HX1.o.grow y_);replace HX2:=kp (HX2.o.grow y_);replace HC:=kp (HC.o.grow y_);replace HK:=kp (HK.o.grow y_);clear y_;go_wp2_with (with_reducible refine wst 25 ?_);refine stop_go ?_;refine wpl_buildg (by first|rfl|(go_simp;done)|fail) rfl T2.o ?_;go_wp2_with fail;refine Calls.mono (show Calls Tryz.prog 32 _ w_ _ from HPU.o w_ g b HC.o) ?_;rintro e v_ ⟨rfl,ht_,hm_,-⟩;have hn_:=HNC.o _ _ _ HC.o HX.o HX1.o HX2.o;replace HC:=kq (CoinsAt v_ g b [(p22,c22)] 5) (by have:=hm_ (by first|trivial|rfl);rw[HE5.o.1]at this;exact this);replace HK:=kp (HK.o.touchd ht_ HNE.o.1 HNE.o.2.1);replace HX:=kp (HX.o.touchd ht_ hn_.1);replace HX1:=kp (HX1.o.touchd ht_ hn_.2.1);replace HX2:=kp (HX2.o.touchd ht_ hn_.2.2);replace HB:=kp (below_touch HB.o ht_ HGB1.o);clear ht_ hm_ hn_;try clear w_
 rename World=>w_;go_wp2_with (with_reducible refine wst 31 ?_);refine stop_go ?_;refine wpl_buildg (by first|rfl|(go_simp;done)|fail) rfl T1.o ?_;go_wp2_with (with_reducible refine wst 32 ?_);refine stop_go ?_;refine wpl_buildg (by first|rfl|(go_simp;done)|fail) rfl T3.o ?_;go_wp2_with (with_reducible refine wst 33 ?_);refine stop_go ?_;refine wpl_buildg (by first|rfl|(go_simp;done)|fail) rfl T4.o ?_;go_wp2_with fail;refine Calls.mono (show Calls Tryz.prog 34 _ w_ _ from HKU.o w_ g2 b2 HK.o) ?_;rintro e v_ ⟨rfl,ht_,hm_,-⟩;have hn_:=HNK.o _ _ _ HK.o HX.o HX1.o HX2.o;replace HK:=kq (LocksAt v_ g2 b2 [(p22,(cn 5,idx 1))] 5) (by have:=hm_ (by first|trivial|rfl);rw[HE5.o.2]at this;exact this);replace HC:=kp (HC.o.touchd ht_ HNE.o.2.2.1 HNE.o.2.2.2);replace HX:=kp (HX.o.touchd ht_ hn_.1);replace HX1:=kp (HX1.o.touchd ht_ hn_.2.1);replace HX2:=kp (HX2.o.touchd ht_ hn_.2.2);replace HB:=kp (below_touch HB.o ht_ HGB2.o);clear ht_ hm_ hn_;try clear w_
 rename World=>w_;go_wp2_with (with_reducible refine wlb 38 row_tx HX.o.blk HX.o.len ?_);have HP1:=kp (pay_any 1 0 w_ (fun w' ht=>HTA.o w' (HX1.o.touchd ht (HNC.o _ _ _ HC.o HX.o HX1.o HX2.o).2.1) (HX2.o.touchd ht (HNC.o _ _ _ HC.o HX.o HX1.o HX2.o).2.2)) (HTT.o _ HB.o) HC.o rel22 HK.o relK22);rw[in22a,pay22a]at HP1;refine HP1.o.mono ?_;rintro e v_ ⟨rfl,⟨L',s',hc_,hr_⟩,ht_⟩;have hn_:=HNC.o _ _ _ HC.o HX.o HX1.o HX2.o;replace HC:=kp hc_;have HR:=kp hr_;replace HK:=kp (HK.o.touchd ht_ HNE.o.1 HNE.o.2.1);replace HX:=kp (HX.o.touchd ht_ hn_.1);replace HX1:=kp (HX1.o.touchd ht_ hn_.2.1);replace HX2:=kp (HX2.o.touchd ht_ hn_.2.2);replace HB:=kp (below_touch HB.o ht_ HGB1.o);clear ht_ hc_ hr_ hn_ HP1;try clear w_
 rename World=>w_;go_wp2_with (with_reducible refine wst 44 ?_);refine stop_go ?_;refine wpl_build rfl rfl T3.o ?_;go_wp2_with fail;refine(HFA.o w_ g2 b2 HK.o).mono ?_;rintro e v_ ⟨rfl,⟨K',s2',hk_,hr_⟩,ht_⟩;have hn_:=HNK.o _ _ _ HK.o HX.o HX1.o HX2.o;replace HK:=kp hk_;have HRK:=kp hr_;replace HC:=kp (HC.o.touchd ht_ HNE.o.2.2.1 HNE.o.2.2.2);replace HX:=kp (HX.o.touchd ht_ hn_.1);replace HX1:=kp (HX1.o.touchd ht_ hn_.2.1);replace HX2:=kp (HX2.o.touchd ht_ hn_.2.2);replace HB:=kp (below_touch HB.o ht_ HGB2.o);clear ht_ hk_ hr_ hn_;try clear w_
 rename World=>w_;generalize freeR [(p22,(cn 5,idx 1))] (idx 1)=fq;go_wp2_with (with_reducible refine wlb 48 row_tx HX.o.blk HX.o.len ?_);have HP1:=kp (pay_any 1 0 w_ (fun w' ht=>HTA.o w' (HX1.o.touchd ht (HNC.o _ _ _ HC.o HX.o HX1.o HX2.o).2.1) (HX2.o.touchd ht (HNC.o _ _ _ HC.o HX.o HX1.o HX2.o).2.2)) (HTT.o _ HB.o) HC.o HR.o HK.o HRK.o);rw[in22b,pay22]at HP1;refine HP1.o.mono ?_;rintro e v_ ⟨rfl,⟨L2,s3,hc_,hr_⟩,ht_⟩;have hl2:=hr_.nilL;subst hl2;have HCL:=kp (clen_any g b [] s3 v_ hc_);replace HB:=kp (below_touch HB.o ht_ HGB1.o);clear ht_ hc_ hr_ HP1 HC HK HX HX1 HX2 HR HRK;try clear w_
 rename World=>w_;go_wp2_with fail;refine HCL.o.mono ?_;rintro e v_ ⟨rfl,rfl⟩;go_wp2_with fail;go_ret
 exact⟨rfl,HB.o⟩
end Go.Proofs.YtnnjjbkdjkjnpaaGreatDoor

/- The contracts of mapping.spread and At. -/
import Derived.Test.YtnnjjbkdjkjnpaaGreatDoorSpendPlaysRb24
import Derived.Laws.ResultCell
set_option linter.unusedSimpArgs false
set_option linter.unusedVariables false
set_option maxRecDepth 100000
set_option maxHeartbeats 16000000
namespace Go.Proofs.YtnnjjbkdjkjnpaaGreatDoor
open Go.RowKit Go.Shelf
def TxAt(w:World)(tv:List Value)(t:Txn):Prop:=∃A n c A2 n2 c2 fee ex,∃l:List (Value×Inp),∃os:List Outp,tv=txV A n c A2 n2 c2 fee ex∧t=⟨l.map Prod.snd,os,fee,ex⟩∧InsAt w A n c l∧OutsAt w A2 n2 c2 os∧n≤100000∧n2≤100000∧U64 fee∧I64 ex
theorem TxAt.grow{w w':World}{tv:List Value}{t:Txn}(h:TxAt w tv t)(k:Grow w w'):TxAt w' tv t:=by
 obtain⟨A,n,c,A2,n2,c2,fee,ex,l,os,h1,h2,h3,h4,h5⟩:=h;exact⟨A,n,c,A2,n2,c2,fee,ex,l,os,h1,h2,h3.grow k,h4.grow k,h5⟩
theorem TxAt.cl{w:World}{tv:List Value}{t:Txn}(h:TxAt w tv t):Cl 4 tv:=by
 obtain⟨A,n,c,A2,n2,c2,fee,ex,l,os,rfl,_⟩:=h;exact txV_cl
theorem TxAt.check{w:World}{tv:List Value}{t:Txn}(h:TxAt w tv t):Calls Tryz.prog 40 #[.agg tv.toArray] w fun e w'=>e=.returned (.int .i64 (checkT t))∧Grow w w':=by
 obtain⟨A,n,c,A2,n2,c2,fee,ex,l,os,rfl,rfl,h3,h4,h5,h6,h7,h8⟩:=h;exact tcheck_any w h3 h4 h5 h6 h7 h8
theorem TxAt.rcheck{w:World}{tv:List Value}{t:Txn}(h:TxAt w tv t):Calls Tryz.prog 19 #[.agg tv.toArray] w fun e w'=>e=.returned (.int .i64 (checkT t))∧Grow w w':=by
 obtain⟨A,n,c,A2,n2,c2,fee,ex,l,os,rfl,rfl,h3,h4,h5,h6,h7,h8⟩:=h;exact rtcheck_any w h3 h4 h5 h6 h7 h8
theorem TxAt.id{w:World}{tv zs:List Value}{t:Txn}(h:TxAt w tv t)(hz:Dig zs (tidB t))(ht:Tabs w):Calls Tryz.prog 42 #[.agg tv.toArray] w fun e w'=>e=.returned (.agg zs.toArray)∧Grow w w':=by
 obtain⟨A,n,c,A2,n2,c2,fee,ex,l,os,rfl,rfl,h3,h4,h5,h6,h7,h8⟩:=h;exact tid_any hz w h3 h4 h5 h6 h7 h8 ht
theorem TxAt.rid{w:World}{tv zs:List Value}{t:Txn}(h:TxAt w tv t)(hck:checkT t=0)(hz:Dig zs (tidB t)):Calls Tryz.prog 22 #[.agg tv.toArray] w fun e w'=>e=.returned (.agg zs.toArray)∧Grow w w':=by
 obtain⟨A,n,c,A2,n2,c2,fee,ex,l,os,rfl,rfl,h3,h4,h5,h6,h7,h8⟩:=h;exact rtid_any hck hz w h3 h4 h7 h8
theorem TxAt.ins{w:World}{tv:List Value}{t:Txn}(h:TxAt w tv t):∃A c,∃l:List (Value×Inp),tv[0]? = some (.slice A t.ins.length c)∧InsAt w A t.ins.length c l∧l.map Prod.snd=t.ins∧t.ins.length≤100000:=by
 obtain⟨A,n,c,A2,n2,c2,fee,ex,l,os,rfl,rfl,h3,h4,h5,h6,h7,h8⟩:=h;have e:(l.map Prod.snd).length=n:=by rw[List.length_map];exact h3.2.2.1
 refine⟨A,c,l,?_,?_,rfl,?_⟩
 ·show some (Value.slice A n c)=some (Value.slice A (l.map Prod.snd).length c);rw[e]
 ·show InsAt w A (l.map Prod.snd).length c l;rw[e];exact h3
 ·show(l.map Prod.snd).length≤_;rw[e];exact h5
theorem TxAt.outs{w:World}{tv:List Value}{t:Txn}(h:TxAt w tv t):∃A c,tv[1]? = some (.slice A t.outs.length c)∧OutsAt w A t.outs.length c t.outs∧t.outs.length≤100000:=by
 obtain⟨A,n,c,A2,n2,c2,fee,ex,l,os,rfl,rfl,h3,h4,h5,h6,h7,h8⟩:=h;have e:os.length=n2:=h4.2.2.1;refine⟨A2,c2,?_,?_,?_⟩
 ·show some (Value.slice A2 n2 c2)=some (Value.slice A2 os.length c2);rw[e]
 ·show OutsAt w A2 os.length c2 os;rw[e];exact h4
 ·show os.length≤_;rw[e];exact h6
theorem tid_len{t:Txn}(h:checkT t=0):(tidB t).length=32:=by unfold tidB;rw[if_pos h];exact sha_length _
theorem tid_dig(t:Txn):Dig ((tidB t).map B) (tidB t):=⟨rfl,by
 unfold tidB;split
 ·exact sha_length _
 ·simp [zeroD]⟩
theorem in_pt(v:Value)(i:Inp){j:Nat}{u:Value}(hu:(ptV i.pt)[j]? = some u):(inV v i)[j]? = some u:=by
 have e:inV v i=ptV i.pt++[.int .u64 i.amount,v]:=by unfold inV ptV Inp.pt;simp
 rw[e,List.getElem?_append_left (List.getElem?_eq_some_iff.1 hu).1];exact hu
theorem in_ok{i:Inp}(h:i.ok):PtOK i.pt:=⟨h.1,by have:=h.2.1;unfold I64 at this;simp [Lit.wf,IntKind.min,IntKind.max,IntKind.signed,IntKind.bits,Inp.pt];omega⟩
def ptZ8:List Value:=ptV (List.replicate 32 0,0)
theorem built_pt80(parts:List (Nat×Value)):Tryz.prog.built 69 parts=Instr.fill (fun i=>(#[(0,32),(32,1)]:Array (Nat×Nat))[i]?) ptZ8.toArray parts:=by kernel_rfl
theorem ptZ8_len:ptZ8.length=33:=by simp [ptZ8,ptV]
theorem bt_pt8{xs:List Value}{z:Int}(h:xs.length=32):Tryz.prog.built 69 [(0,.agg xs.toArray),(1,.int .i64 z)]=some (xs++[Value.int .i64 z]).toArray:=by
 rw[built_pt80,fill_cons (off:=0) (s:=32) (cs:=xs) (by simp) rfl h (by rw[ptZ8_len];omega)]
 have e:splice ptZ8 0 xs=xs++[Value.int .i64 0]:=by
  rw[show ptZ8=[]++((List.replicate 32 (0:UInt8)).map B++[Value.int .i64 0]) from rfl,splice_mid (off:=0) (by rfl) (by simp [h])];rfl
 rw[e,fill_cons (off:=32) (s:=1) (cs:=[Value.int .i64 z]) (by simp) rfl rfl (by simp [h]),fill_nil];rw[show xs++[Value.int .i64 0]=xs++([Value.int .i64 0]++[]) from by simp,splice_mid (off:=32) (by simp [h]) (by simp)];simp
theorem rangeI_snoc(f:Nat→Int)(k:Nat):(List.range (k+1)).map f=(List.range k).map f++[f k]:=by rw[List.range_succ,List.map_append];rfl
theorem spread_any {tv : List Value} {t : Txn} (n : Int) (w : World) (h : TxAt w tv t) (ht : Tabs w) :
  Calls Tryz.prog 67 #[.agg tv.toArray,.int .i64 n] w fun e w'=>∃A3 c3 A4 c4,e=.returned (.tuple #[.slice A3 (shrI t n).length c3,.slice A4 (shrO t n).length c4,.bool (decide (spT t n))])∧IntsAt w' A3 (shrI t n)∧IntsAt w' A4 (shrO t n)∧Grow w w':=by
 have HTC:=kp h.cl;have HCK:=kp (fun w' (k:Grow w w')=>(h.grow k).check);have HID:=kp (fun w' (k:Grow w w')=>(h.grow k).id (tid_dig t) (ht.grow k));have HTT:=kp (fun w' (k:Grow w w')=>ht.grow k);obtain⟨A,c,l,hv0,hi,hl,hn⟩:=h.ins;obtain⟨A2,c2,hv1,ho,hn2⟩:=h.outs;have HI:=kp hi;have HO:=kp ho;have HL:=kp hl;have HV0:=kp hv0;have HV1:=kp hv1;obtain⟨w_,hw⟩:=xe w;have HB:=kq (Below w.heap.size w w_) (by rw[hw];exact Below.refl _ _)
 suffices H:Calls Tryz.prog 67 #[.agg tv.toArray,.int .i64 n] w_ (fun e w'=>∃A3 c3 A4 c4,e=.returned (.tuple #[.slice A3 (shrI t n).length c3,.slice A4 (shrO t n).length c4,.bool (decide (spT t n))])∧IntsAt w' A3 (shrI t n)∧IntsAt w' A4 (shrO t n)∧Grow w w') by rw[hw]at H;exact H
 clear hw h ht hi ho hl hv0 hv1
 have HNO:=kp (fun(hs:¬ spT t n) w' (k:Grow w w')=>show ∃A3 c3 A4 c4,Ending.returned (.tuple #[.slice none 0 0,.slice none 0 0,.bool false])=.returned (.tuple #[.slice A3 (shrI t n).length c3,.slice A4 (shrO t n).length c4,.bool (decide (spT t n))])∧IntsAt w' A3 (shrI t n)∧IntsAt w' A4 (shrO t n)∧Grow w w' by
  have e1:shrI t n=[]:=by unfold shrI;rw[if_neg hs]
  have e2:shrO t n=[]:=by unfold shrO;rw[if_neg hs]
  rw[e1,e2,decide_eq_false hs]
  exact⟨none,0,none,0,rfl,IntsAt.nil _,IntsAt.nil _,k⟩)
 go_enter Tryz.func67,Tryz.ntmps67
 go_wp2_with (with_reducible first|refine wpl_box (o:=⟨some 2,_,_,_,_,_⟩) rfl rfl rfl ?_);intro v_ b_ y_ s_;have HX_:=kp (at_mk b_ HTC.o.len);clear b_ s_;have HG_:=kp HB.o.size;replace HB:=kp (HB.o.grow' y_);generalize x_:w_.heap.size=g1 at HX_ HG_ ⊢;clear x_;have HX_g:=HG_;clear HG_;have HX:=HX_;clear y_ HX_;try clear w_
 rename World=>w_;go_wp2_with (with_reducible refine wlb 15 row_tx HX.o.blk HX.o.len ?_);refine(HCK.o _ HB.o).mono ?_;rintro e w_ ⟨rfl,y_⟩;replace HB:=kp (HB.o.grow' y_);replace HX:=kp (HX.o.grow y_);clear y_;by_cases hs:spT t n
 case neg =>
  have HN:=kp (HNO.o hs _ HB.o);by_cases hc0:checkT t=0
  ·rw[hc0];have z1:((0:Int) != 0)=false:=by decide
   by_cases h1:n < 1
   ·go_wp2_with fail
    go_ret3
    exact HN.o
   ·have h2:64 < n:=by unfold spT at hs;omega
    go_wp2_with fail
    go_ret3
    exact HN.o
  ·have z1:(checkT t != 0)=true:=by simpa using hc0
   go_wp2_with fail
   go_ret3
   exact HN.o
 case pos =>
  have HSI:=kq (shrI t n=t.ins.map (fun i=>shd i.pt n)) (by unfold shrI;rw[if_pos hs]);have HSO:=kq (shrO t n=(List.range t.outs.length).map (fun k:Nat=>shd (tidB t,(k:Int)) n)) (by unfold shrO;rw[if_pos hs]);have HSD:=kp (decide_eq_true hs);rw[hs.1];have z1:((0:Int) != 0)=false:=by decide
  have h1:¬ (n < 1):=by have:=hs.2.1;omega
  have h2:¬ (64 < n):=by have:=hs.2.2;omega
  have HRT:=kp (right_of hs.1);have HTL:=kp (tid_len hs.1);have HS:=kp hs;have c0:=HX.o.blk.at_ HV0.o;clear hs HNO
  go_upto_block 0 with fail
  go_cut [4] from 29 to 44 (fun s4 wr=>∃A3 c3,s4=.slice A3 t.ins.length c3∧Hid (OwnZ wr (g1+1) A3 t.ins.length c3 (shrI t n)∧At wr g1 27 4 tv∧Below w.heap.size w wr))
  case first =>
   go_wp2_with fail;go_loopw [4,29] (fun s4 iv wr=>∃k:Nat,∃A3 c3,k≤t.ins.length∧iv=.int .i64 k∧s4=.slice A3 k c3∧Hid (OwnZ wr (g1+1) A3 k c3 ((t.ins.take k).map (fun i=>shd i.pt n))∧At wr g1 27 4 tv∧Below w.heap.size w wr)) (fun _ iv _=>t.ins.length - (intOf iv).toNat)
   case atStart=>exact⟨0,none,0,by omega,rfl,rfl,kp ⟨World.ownsRow_nil _ _ _ _,HX.o,HB.o⟩⟩
   case round =>
    obtain⟨k,A3,c3,hk,rfl,rfl,hI⟩:=hrel;clear HX HB c0;have HR:=kp hI.o.1;have HX:=kp hI.o.2.1;have HB:=kp hI.o.2.2;clear hI;rename World=>w_;by_cases hlt:k < t.ins.length
    ·have HII:=kp (HI.o.grow HB.o);obtain⟨b,off,p,rfl,hp,hok,hc⟩:=HII.o.at_ hlt;have hp2:t.ins[k]? = some p.2:=by rw[← HL.o,List.getElem?_map,hp];rfl
     have HC:=kp hc;have HPC:=kp (inV_cl hok);have HPT:=kp (fun j u (hu:(ptV p.2.pt)[j]? = some u)=>in_pt p.1 p.2 hu);have HPO:=kp (in_ok hok.2);have HSH:=kq (shOK p.2.pt n) ⟨HS.o.2.1,HS.o.2.2,(HRT.o.2.2.2 p.2 (List.mem_of_getElem? hp2)).2.1,(HRT.o.2.2.2 p.2 (List.mem_of_getElem? hp2)).2.2⟩;have HSN:=kq ((t.ins.take (k+1)).map (fun i=>shd i.pt n)=(t.ins.take k).map (fun i=>shd i.pt n)++[shd p.2.pt n]) (by rw[take_snoc hp2,List.map_append];rfl);have HMO:=kp (fun w' (hb:Grow w w')=>mof_yes p.2.pt n w' HPO.o HSH.o (HTT.o w' hb));have HPV:=kp (ptV_cl HPO.o);unfold ptA at HMO;obtain⟨sx,hsx⟩:=xe (shd p.2.pt n);obtain⟨es,hes⟩:=xe (ptV p.2.pt);obtain⟨pv,hpv⟩:=xe (inV p.1 p.2);obtain⟨Y,hY⟩:=xe ((t.ins.take k).map (fun i=>shd i.pt n));rw[← hpv]at HC HPC HPT;rw[← hes]at HPT HMO HPV;rw[← hsx]at HMO HSN;rw[← hY]at HR HSN;clear hp hok hc hpv HII hp2 hsx hes hY;go_wp2_with (with_reducible first|refine wlm 32 row_tin HC.o HPC.o.len ?_|refine wpl_alloc (o:=⟨some 8,_,_,_,_,_⟩) rfl rfl zero_tin ?_);intro w1_ hb1_ hbw1_ hsz1_;have HB1_:=kp (at_mk hb1_ len_tin);have HBW1_:=kp hbw1_;have HZ1_:=kp hsz1_;clear hb1_ hbw1_ hsz1_;go_wp2_with (with_reducible refine wsb row_tin HB1_.o.blk HB1_.o.len HPC.o.len HPC.o.one ?_);intro v_ b_ g_ s_;have y_:=var_grow HBW1_.o HZ1_.o g_;have HX_:=kp (at_mk b_ HPC.o.len);clear b_ g_ s_ HB1_ HBW1_ HZ1_;replace HB:=kp (HB.o.grow' y_);replace HX:=kp (HX.o.grow y_);replace HR:=kp (HR.o.grow y_);generalize x_:w_.heap.size=g5 at HX_ ⊢;clear x_;have HE:=HX_;clear y_ HX_;clear w1_;try clear w_
     rename World=>w_;have HM_:=kq (∀j u,es[j]? = some u→w_.cell? ⟨g5,0+j,none⟩=some u) (fun j u hu=>by rw[Nat.zero_add];exact HE.o.blk.at_ (HPT.o j u hu));go_wp2_with (with_reducible refine wlm 35 row_point HM_.o HPV.o.len ?_);refine(HMO.o w_ HB.o).mono ?_;rintro e w_ ⟨rfl,y_⟩;replace HB:=kp (HB.o.grow' y_);replace HX:=kp (HX.o.grow y_);replace HR:=kp (HR.o.grow y_);clear y_;clear HM_;have HGZ:=kq (g1+1≤w_.heap.size) (by have:=HX.o.lt;omega);have HR3:=kq (w_.ownsRow (g1+1) 3 1 (.slice A3 k c3) k (Y.map (Value.int .i64))) HR.o;go_wp2_with (first|(at_builtin;refine wpl_app1 rfl rfl el_int HR3.o rfl (m:=1) rfl ?_ ?_ ?_ ?_ ?_ ?_))
     ·rfl
     ·rfl
     ·omega
     ·omega
     ·exact HGZ.o
     intro A4 c4 w4_ ho_ x_ hA_;have hne_:=own_from HR3.o;have HX_:=kq (At w4_ g1 27 4 tv) (at_mk (HX.o.blk.grown x_ (fun h=>by have:=hne_ _ h.symm;omega)) HX.o.len);have HB_:=kp (below_grown HB.o x_ HB.o.size (fun x hx=>by have:=hne_ _ hx;have:=HX_g.o;omega));have HR_:=kq (OwnZ w4_ (g1+1) A4 (k+1) c4 ((t.ins.take (k+1)).map (fun i=>shd i.pt n))) (by rw[HSN.o];exact OwnZ.snoc ho_);clear ho_ x_ hA_ hne_ HX HB HR HR3;go_wp2_with fail;go_roundw
     case rel=>exact⟨k+1,A4,c4,by omega,by go_num,rfl,kp ⟨HR_.o,HX_.o,HB_.o⟩⟩
     case measure=>simp [intOf];omega
    ·obtain rfl:k=t.ins.length:=by omega
     have HRN:=kq (OwnZ w_ (g1+1) A3 t.ins.length c3 (shrI t n)) (by have h:=HR.o;rw[List.take_of_length_le (Nat.le_refl _)]at h;rw[HSI.o];exact h);go_wp2_with fail
     go_meet
     case rel=>exact⟨A3,c3,rfl,kp ⟨HRN.o,HX.o,HB.o⟩⟩
  case rest =>
   obtain⟨A3,c3,rfl,hI⟩:=hcut;clear HX HB c0;have HU:=kp hI.o.1;have HX:=kp hI.o.2.1;have HB:=kp hI.o.2.2;clear hI;rename World=>w_;have HZ:=kp (tid_dig t);have HZP:=kp (fun k:Nat=>show(tidB t).map B++[Value.int .i64 (k:Int)]=ptV (tidB t,(k:Int)) from rfl);have HMO:=kp (fun w' (hb:Grow w w') (k:Nat) (hk:k < t.outs.length)=>mof_yes (tidB t,(k:Int)) n w' ⟨HTL.o,by have:=HRT.o.2.1;simp [Lit.wf,IntKind.min,IntKind.max,IntKind.signed,IntKind.bits];omega⟩ ⟨HS.o.2.1,HS.o.2.2,by show(0:Int)≤(k:Int);omega,by have:=HRT.o.2.1;show(k:Int)≤15;omega⟩ (HTT.o w' hb));unfold ptA at HMO;obtain⟨zs,hzs⟩:=xe ((tidB t).map B);rw[← hzs]at HZ HID HZP;clear hzs;go_wp2_with (with_reducible refine wlb 45 row_tx HX.o.blk HX.o.len ?_);refine(HID.o _ HB.o).mono ?_;rintro e w_ ⟨rfl,y_⟩;replace HB:=kp (HB.o.grow' y_);replace HX:=kp (HX.o.grow y_);replace HU:=kp (HU.o.grow y_);clear y_;go_wp2_with (with_reducible first|refine wpl_alloc (o:=⟨some 11,_,_,_,_,_⟩) rfl rfl zero_id ?_);intro w1_ hb1_ hbw1_ hsz1_;have HB1_:=kp (at_mk hb1_ len_id);have HBW1_:=kp hbw1_;have HZ1_:=kp hsz1_;clear hb1_ hbw1_ hsz1_;go_wp2_with (with_reducible refine wsb row_id HB1_.o.blk HB1_.o.len HZ.o.len HZ.o.one ?_);intro v_ b_ g_ s_;have y_:=var_grow HBW1_.o HZ1_.o g_;have HX_:=kp (at_mk b_ HZ.o.len);clear b_ g_ s_ HB1_ HBW1_ HZ1_;replace HB:=kp (HB.o.grow' y_);replace HX:=kp (HX.o.grow y_);replace HU:=kp (HU.o.grow y_);generalize x_:w_.heap.size=gV at HX_ ⊢;clear x_;have HV:=HX_;clear y_ HX_;clear w1_;try clear w_
   rename World=>w_;have c1:=HX.o.blk.at_ HV1.o;obtain⟨z0,hz0⟩:=xe w_.heap.size;have HZ0:=kq (w.heap.size≤z0∧g1 < z0∧gV < z0) (by rw[hz0];exact⟨HB.o.size,HX.o.lt,HV.o.lt⟩);have HZL:=kq (z0≤w_.heap.size) (by rw[hz0];exact Nat.le_refl _);have HIN:=kq (Sl w_ z0 1 A3 (shrI t n).length ((shrI t n).map (Value.int .i64))) (by rw[hz0];exact OwnZ.ints HU.o (by rw[HSI.o,List.length_map]));have HIL:=kq ((shrI t n).length=t.ins.length) (by rw[HSI.o,List.length_map]);clear hz0 HU;go_wp2_with fail;go_loopw [5,50] (fun s5 iv wr=>∃k:Nat,∃A4 c4,k≤t.outs.length∧iv=.int .i64 k∧s5=.slice A4 k c4∧Hid (OwnZ wr z0 A4 k c4 ((List.range k).map (fun j:Nat=>shd (tidB t,(j:Int)) n))∧At wr gV 46 32 zs∧Sl wr z0 1 A3 (shrI t n).length ((shrI t n).map (Value.int .i64))∧Below w.heap.size w wr∧z0≤wr.heap.size)) (fun _ iv _=>t.outs.length - (intOf iv).toNat)
   case atStart=>exact⟨0,none,0,by omega,rfl,rfl,kp ⟨World.ownsRow_nil _ _ _ _,HV.o,HIN.o,HB.o,HZL.o⟩⟩
   case round =>
    obtain⟨k,A4,c4,hk,rfl,rfl,hI⟩:=hrel;clear HX HB c1 HV HIN HZL;have HR:=kp hI.o.1;have HV:=kp hI.o.2.1;have HIN:=kp hI.o.2.2.1;have HB:=kp hI.o.2.2.2.1;have HZL:=kp hI.o.2.2.2.2;clear hI;rename World=>w_;by_cases hlt:k < t.outs.length
    ·have BT:=kq (Tryz.prog.built 69 [(0,.agg zs.toArray),(1,.int .i64 (k:Int))]=some (ptV (tidB t,(k:Int))).toArray) (by rw[bt_pt8 HZ.o.len,HZP.o]);have HMK:=kp (fun w' hb=>HMO.o w' hb k hlt);have HSN:=kp (rangeI_snoc (fun j:Nat=>shd (tidB t,(j:Int)) n) k);obtain⟨sx,hsx⟩:=xe (shd (tidB t,(k:Int)) n);obtain⟨es,hes⟩:=xe (ptV (tidB t,(k:Int)));obtain⟨Y,hY⟩:=xe ((List.range k).map (fun j:Nat=>shd (tidB t,(j:Int)) n));rw[← hes]at BT HMK;simp only [← hsx]at HSN;rw[← hsx]at HMK;rw[← hY]at HR HSN;clear hsx hes hY;go_wp2_with (with_reducible first|refine wlb 54 row_id HV.o.blk HV.o.len ?_|refine wst 56 ?_);refine stop_go ?_;refine wpl_build rfl rfl BT.o ?_;go_wp2_with fail;refine(HMK.o w_ HB.o).mono ?_;rintro e v_ ⟨rfl,y_⟩;replace HV:=kp (HV.o.grow y_);replace HIN:=kp (HIN.o.below (y_.mono HZL.o));replace HR:=kp (HR.o.grow y_);replace HZL:=kp (Nat.le_trans HZL.o y_.size);replace HB:=kp (HB.o.grow' y_);clear y_;try clear w_
     rename World=>w_;have HR3:=kq (w_.ownsRow z0 3 1 (.slice A4 k c4) k (Y.map (Value.int .i64))) HR.o;go_wp2_with (first|(at_builtin;refine wpl_app1 rfl rfl el_int HR3.o rfl (m:=1) rfl ?_ ?_ ?_ ?_ ?_ ?_))
     ·rfl
     ·rfl
     ·omega
     ·omega
     ·exact HZL.o
     intro A6 c6 w4_ ho_ x_ hA_;have hne_:=own_from HR3.o;have HV_:=kq (At w4_ gV 46 32 zs) (at_mk (HV.o.blk.grown x_ (fun h=>by have:=hne_ _ h.symm;have:=HZ0.o;omega)) HV.o.len);have HIN_:=kp (HIN.o.grown x_ HZL.o hne_);have HB_:=kp (below_grown HB.o x_ HB.o.size (fun x hx=>by have:=hne_ _ hx;have:=HZ0.o;omega));have HR_:=kq (OwnZ w4_ z0 A6 (k+1) c6 ((List.range (k+1)).map (fun j:Nat=>shd (tidB t,(j:Int)) n))) (by rw[HSN.o];exact OwnZ.snoc ho_);have HZL_:=kp (Nat.le_trans HZL.o x_.size);clear ho_ x_ hA_ hne_ HB HR HR3 HV HIN HZL;go_wp2_with fail;go_roundw
     case rel=>exact⟨k+1,A6,c6,by omega,by go_num,rfl,kp ⟨HR_.o,HV_.o,HIN_.o,HB_.o,HZL_.o⟩⟩
     case measure=>simp [intOf];omega
    ·obtain rfl:k=t.outs.length:=by omega
     have HRN:=kq (OwnZ w_ z0 A4 t.outs.length c4 (shrO t n)) (by rw[HSO.o];exact HR.o);have HOL:=kq ((shrO t n).length=t.outs.length) (by rw[HSO.o,List.length_map,List.length_range]);go_wp2_with fail
     go_ret3
     exact⟨A3,c3,A4,c4,by rw[HIL.o,HOL.o,HSD.o];rfl,HIN.o.more HZL.o,OwnZ.ints HRN.o HOL.o,HB.o⟩
theorem at_any {tv : List Value} {t : Txn} (n me : Int) (w : World) (h : TxAt w tv t) (ht : Tabs w) :
  Calls Tryz.prog 38 #[.agg tv.toArray,.int .i64 n,.int .i64 me] w fun e w'=>∃A3 c3 A4 c4,e=.returned (.tuple #[.slice A3 (hereI t n me).length c3,.slice A4 (hereO t n me).length c4])∧NatsAt w' w.heap.size A3 (hereI t n me)∧NatsAt w' w.heap.size A4 (hereO t n me)∧Grow w w':=by
 have HTC:=kp h.cl;have HSP:=kp (fun w' (k:Grow w w')=>spread_any n w' (h.grow k) (ht.grow k));have HLI:=kp (shrI_len t n);have HLO:=kp (shrO_len t n);have HEI:=kq (placesI (shrI t n) me=hereI t n me) rfl;have HEO:=kq (placesI (shrO t n) me=hereO t n me) rfl;obtain⟨li,hli⟩:=xe (shrI t n);obtain⟨lo,hlo⟩:=xe (shrO t n);obtain⟨ki,hki⟩:=xe (hereI t n me);obtain⟨ko,hko⟩:=xe (hereO t n me);rw[← hli]at HSP HLI HEI;rw[← hlo]at HSP HLO HEO;rw[← hki]at HEI ⊢;rw[← hko]at HEO ⊢;obtain⟨w_,hw⟩:=xe w;have HB:=kq (Below w.heap.size w w_) (by rw[hw];exact Below.refl _ _)
 suffices H:Calls Tryz.prog 38 #[.agg tv.toArray,.int .i64 n,.int .i64 me] w_ (fun e w'=>∃A3 c3 A4 c4,e=.returned (.tuple #[.slice A3 ki.length c3,.slice A4 ko.length c4])∧NatsAt w' w.heap.size A3 ki∧NatsAt w' w.heap.size A4 ko∧Grow w w') by rw[hw]at H;exact H
 clear hw h ht hli hlo hki hko
 go_enter Tryz.func38,Tryz.ntmps38
 go_wp2_with (with_reducible first|refine wpl_box (o:=⟨some 3,_,_,_,_,_⟩) rfl rfl rfl ?_);intro v_ b_ y_ s_;have HX_:=kp (at_mk b_ HTC.o.len);clear b_ s_;have HG_:=kp HB.o.size;replace HB:=kp (HB.o.grow' y_);generalize x_:w_.heap.size=g1 at HX_ HG_ ⊢;clear x_;have HX_g:=HG_;clear HG_;have HX:=HX_;clear y_ HX_;try clear w_
 rename World=>w_;go_wp2_with (with_reducible refine wlb 12 row_tx HX.o.blk HX.o.len ?_);refine(HSP.o _ HB.o).mono ?_;rintro e v_ ⟨A3,c3,A4,c4,rfl,hi,ho,y_⟩;have HI:=kp hi;have HO:=kp ho;replace HB:=kp (HB.o.grow' y_);clear hi ho y_ HX HSP;try clear w_
 rename World=>w_;go_wp2_with fail;refine(places_any me _ HI.o (Nat.le_trans HLI.o (by omega))).mono ?_;rintro e v_ ⟨A5,c5,rfl,h5,y_⟩;rw[HEI.o]at h5 ⊢;have H5:=kp (h5.nats.less HB.o.size);replace HO:=kp (HO.o.grow y_);replace HB:=kp (HB.o.grow' y_);clear h5 y_ HI;try clear w_
 rename World=>w_;go_wp2_with fail;refine(places_any me _ HO.o (Nat.le_trans HLO.o (by omega))).mono ?_;rintro e v_ ⟨A6,c6,rfl,h6,y_⟩;rw[HEO.o]at h6 ⊢;have H6:=kp (h6.nats.less HB.o.size);replace H5:=kp (H5.o.grow y_);replace HB:=kp (HB.o.grow' y_);clear h6 y_ HO;go_wp2_with fail
 go_ret2
 exact⟨A5,c5,A6,c6,rfl,H5.o,H6.o,HB.o⟩
def turnTo(p:List UInt8)(m:UInt8)(k:Nat):List UInt8:=(p.take k).map (· ^^^ m)
attribute [irreducible] turnTo
theorem xor54(x:UInt8):Op.intBits .xor .u8 (b8 x) 54=pure (.int .u8 (b8 (x ^^^ 54))):=xor_b x 54
theorem xor92(x:UInt8):Op.intBits .xor .u8 (b8 x) 92=pure (.int .u8 (b8 (x ^^^ 92))):=xor_b x 92
def zero8:UInt8:=0
theorem xor54z:Op.intBits .xor .u8 0 54=pure (.int .u8 (b8 (zero8 ^^^ 54))):=xor_b 0 54
theorem xor92z:Op.intBits .xor .u8 0 92=pure (.int .u8 (b8 (zero8 ^^^ 92))):=xor_b 0 92
attribute [irreducible] zero8
attribute [local go_sem high] xor54 xor92 xor54z xor92z
end Go.Proofs.YtnnjjbkdjkjnpaaGreatDoor
namespace Go.Proofs.YtnnjjbkdjkjnpaaGreatDoor
open Go.RowKit Go.Shelf
def pathB(l:List (List UInt8))(i:Nat):List (List UInt8):=
 if h:l.length < 2∨l.length≤i then [] else
 if i < halfN l.length then pathB (l.take (halfN l.length)) i++[rootB (l.drop (halfN l.length))] else pathB (l.drop (halfN l.length)) (i - halfN l.length)++[rootB (l.take (halfN l.length))]
termination_by l.length
decreasing_by
 ·rw[List.length_take];have:=halfN_lt (n:=l.length) (by omega);omega
 ·rw[List.length_drop];have:=halfN_pos l.length;omega
def pathI(l:List (List UInt8))(i:Int):List (List UInt8):=if i < 0 then [] else pathB l i.toNat
attribute [local irreducible] pathI
end Go.Proofs.YtnnjjbkdjkjnpaaGreatDoor
namespace Go.Proofs.YtnnjjbkdjkjnpaaGreatDoor
open Go.RowKit Go.Shelf
attribute [local irreducible] nodeB leafB
theorem pl_loadm {P : Program} {ops : Array Oper} {cl : List Nat} {Q : Exit → Act → World → Prop} {o : Oper} {i : Nat} {t : Plan} {a : Act} {w : World} {T : TypeId} {x : Operand} {n b off : Nat} {cs : List Value} (hi : ops[i]? = some o) (hc : plCls cl i = 1 ∨ plCls cl i = 2) (hw : Region.wanted o (yielded ops a.tmps) = true) (ho : o.op = .load T x) (hT : RowT P T n)
  (hcell:∀j u,cs[j]? = some u→w.cell? ⟨b,off+j,none⟩=some u) (hbz:b < w.heap.size) (hx:a.eval x=.pointer (some ⟨b,off,none⟩)) (hn:cs.length=n)
  (hk:∀K:Act→World→Prop,(∀a w,wpS P ops Grow cl Q t a w→K a w)→K (a.put o.dst (.agg cs.toArray)) w):wpS P ops Grow cl Q (.get i t) a w:=by
 have hrun:∀w',Grow w w'→(execOp a.eval o).run P w'=.ok (.value (.agg cs.toArray)) w':=by
  intro w' hf;obtain⟨d,hu,hd,hi⟩:=hT;have h:=run_loadVar_mid (P:=P) w' b off T cs d (fun j u hu=>(hf.cell (show(⟨b,off+j,none⟩:Addr).block < w.heap.size from hbz)).trans (hcell j u hu)) hu (by cases d <;> simp_all) (by rw[hi,hn]);unfold execOp;simp only [ho,hx,Instr.loadAt,Instr.sureAddr,Sem.run_bind,Sem.run_pure,Result.andThen_ok,h]
 rcases hc with hc|hc
 ·exact pl_read hi hc hw hrun hk
 ·exact pl_now hi hc hw (hrun w (Grow.refl w)) hk
end Go.Proofs.YtnnjjbkdjkjnpaaGreatDoor

/- The contract of tx.amounts. -/
import Derived.Test.YtnnjjbkdjkjnpaaGreatDoorSpendPlaysRb13
set_option linter.unusedSimpArgs false
set_option linter.unusedVariables false
set_option maxRecDepth 100000
set_option maxHeartbeats 16000000
namespace Go.Proofs.YtnnjjbkdjkjnpaaGreatDoor
open Go.RowKit Go.Shelf
theorem fm_at{α:Type}(f:α→List Value)(sz:Nat):∀(l:List α) (k j:Nat) (x:α) (u:Value),(∀y∈l,(f y).length=sz)→l[k]? = some x→(f x)[j]? = some u→(l.flatMap f)[k*sz+j]? = some u
 |[],k,j,x,u,_,hx,_=>by simp at hx
 | y::l,0,j,x,u,hl,hx,hu=>by
  simp only [List.getElem?_cons_zero,Option.some.injEq]at hx;subst hx;rw[List.flatMap_cons,Nat.zero_mul,Nat.zero_add,List.getElem?_append_left (List.getElem?_eq_some_iff.1 hu).1];exact hu
 | y::l,k+1,j,x,u,hl,hx,hu=>by
  rw[List.getElem?_cons_succ]at hx;have e1:(f y).length=sz:=hl y (List.mem_cons_self ..);rw[List.flatMap_cons,List.getElem?_append_right (by rw[e1,Nat.succ_mul];omega),e1,show(k+1)*sz+j - sz=k*sz+j by rw[Nat.succ_mul];omega];exact fm_at f sz l k j x u (fun z hz=>hl z (List.mem_cons_of_mem _ hz)) hx hu
theorem inV_cl{w:World}{Bd:Nat}{p:Value×Inp}(h:InOK w Bd p):Cl 35 (inV p.1 p.2):=by
 refine⟨inV_len h.2,fun u hu=>?_⟩;obtain⟨A,c,e,_,_⟩:=h.1;unfold inV at hu;simp only [List.mem_append,List.mem_map,List.mem_cons,List.not_mem_nil,or_false]at hu;rcases hu with ⟨_,_,rfl⟩|rfl|rfl|rfl
 ·rfl
 ·rfl
 ·rfl
 ·rw[e];rfl
theorem outV_cl{o:Outp}(h:o.ok):Cl 33 (outV o):=by
 refine⟨outV_len h,fun u hu=>?_⟩;unfold outV at hu;simp only [List.mem_append,List.mem_map,List.mem_cons,List.not_mem_nil,or_false]at hu;rcases hu with ⟨_,_,rfl⟩|rfl <;> rfl
theorem InsAt.at_ {w : World} {A : Option Addr} {n c : Nat} {l : List (Value × Inp)} (h : InsAt w A n c l) {k : Nat} (hk : k < n) :
  ∃b off p,A=some ⟨b,off,none⟩∧l[k]? = some p∧InOK w w.heap.size p∧∀j u,(inV p.1 p.2)[j]? = some u→w.cell? ⟨b,off+k*35+j,none⟩=some u:=by
 obtain⟨hs,ho,hl,_⟩:=h;obtain⟨b,off,e,hb,hc⟩:=hs.2 (by omega);have hk2:k < l.length:=by omega
 refine⟨b,off,l[k],e,List.getElem?_eq_getElem hk2,ho _ (List.getElem_mem hk2),fun j u hu=>?_⟩;have h2:=hc (k*35+j) u (fm_at (fun p:Value×Inp=>inV p.1 p.2) 35 l k j _ u (fun y hy=>inV_len (ho y hy).2) (List.getElem?_eq_getElem hk2) hu);rw[← Nat.add_assoc]at h2;exact h2
theorem OutsAt.at_ {w : World} {A : Option Addr} {n c : Nat} {l : List Outp} (h : OutsAt w A n c l) {k : Nat} (hk : k < n) :
  ∃b off p,A=some ⟨b,off,none⟩∧l[k]? = some p∧p.ok∧∀j u,(outV p)[j]? = some u→w.cell? ⟨b,off+k*33+j,none⟩=some u:=by
 obtain⟨hs,ho,hl,_⟩:=h;obtain⟨b,off,e,hb,hc⟩:=hs.2 (by omega);have hk2:k < l.length:=by omega
 refine⟨b,off,l[k],e,List.getElem?_eq_getElem hk2,ho _ (List.getElem_mem hk2),fun j u hu=>?_⟩;have h2:=hc (k*33+j) u (fm_at outV 33 l k j _ u (fun y hy=>outV_len (ho y hy)) (List.getElem?_eq_getElem hk2) hu);rw[← Nat.add_assoc]at h2;exact h2
def zeroIn:List Value:=inV nilS ⟨zeroD,0,0,[]⟩
def zeroOut:List Value:=outV ⟨zeroD,0⟩
theorem zero_tin:(Tryz.prog.info? 72).map (·.zero)=some (some (.agg zeroIn.toArray)):=by kernel_rfl
theorem zero_tout:(Tryz.prog.info? 74).map (·.zero)=some (some (.agg zeroOut.toArray)):=by kernel_rfl
theorem len_tin:zeroIn.length=35:=by simp [zeroIn,inV,zeroD]
theorem len_tout:zeroOut.length=33:=by simp [zeroOut,outV,zeroD]
def txV(A:Option Addr)(n c:Nat)(A2:Option Addr)(n2 c2:Nat)(fee ex:Int):List Value:=[.slice A n c,.slice A2 n2 c2,.int .u64 fee,.int .i64 ex]
theorem txV_cl{A:Option Addr}{n c:Nat}{A2:Option Addr}{n2 c2:Nat}{fee ex:Int}:Cl 4 (txV A n c A2 n2 c2 fee ex):=⟨rfl,fun u hu=>by simp only [txV,List.mem_cons,List.not_mem_nil,or_false]at hu;rcases hu with rfl|rfl|rfl|rfl <;> rfl⟩
def amI(l:List (Value×Inp)):List Int:=l.map fun p=>p.2.amount
def amO(l:List Outp):List Int:=l.map Outp.amount
theorem am_snoc{α:Type}(f:α→Int){l:List α}{k:Nat}{p:α}(h:l[k]? = some p):((l.take (k+1)).map f).map (Value.int .u64)=((l.take k).map f).map (Value.int .u64)++[.int .u64 (f p)]:=by
 rw[take_snoc h];simp
def OwnU(w:World)(base:Nat)(A:Option Addr)(n c:Nat)(zs:List Value):Prop:=w.ownsRow base 25 1 (.slice A n c) n zs
theorem OwnU.grow{w w':World}{base n c:Nat}{A:Option Addr}{zs:List Value}(h:OwnU w base A n c zs)(k:Grow w w'):OwnU w' base A n c zs:=own_below h k
theorem amounts_any {A : Option Addr} {n c : Nat} {A2 : Option Addr} {n2 c2 : Nat} {fee ex : Int} {l : List (Value × Inp)} {os : List Outp} (w : World) (hi : InsAt w A n c l) (ho : OutsAt w A2 n2 c2 os) (hn : n ≤ 1000000) (hn2 : n2 ≤ 1000000) :
  Calls Tryz.prog 69 #[.agg (txV A n c A2 n2 c2 fee ex).toArray] w fun e w'=>∃A3 c3 A4 c4,e=.returned (.tuple #[.slice A3 n c3,.slice A4 n2 c4])∧OwnU w' w.heap.size A3 n c3 ((amI l).map (Value.int .u64))∧OwnU w' w.heap.size A4 n2 c4 ((amO os).map (Value.int .u64))∧Grow w w':=by
 have HI:=kp hi;have HO:=kp ho;have HTC:=kp (txV_cl (A:=A) (n:=n) (c:=c) (A2:=A2) (n2:=n2) (c2:=c2) (fee:=fee) (ex:=ex));have HT0:=kq ((txV A n c A2 n2 c2 fee ex)[0]? = some (.slice A n c)) rfl;have HT1:=kq ((txV A n c A2 n2 c2 fee ex)[1]? = some (.slice A2 n2 c2)) rfl;obtain⟨tv,htv⟩:=xe (txV A n c A2 n2 c2 fee ex);rw[← htv]at HTC HT0 HT1 ⊢;obtain⟨w_,hw⟩:=xe w;have HB:=kq (Below w.heap.size w w_) (by rw[hw];exact Below.refl _ _)
 suffices H:Calls Tryz.prog 69 #[.agg tv.toArray] w_ fun e w'=>∃A3 c3 A4 c4,e=.returned (.tuple #[.slice A3 n c3,.slice A4 n2 c4])∧OwnU w' w.heap.size A3 n c3 ((amI l).map (Value.int .u64))∧OwnU w' w.heap.size A4 n2 c4 ((amO os).map (Value.int .u64))∧Grow w w' by rw[hw]at H;exact H
 clear hw hi ho htv
 go_enter Tryz.func69,Tryz.ntmps69
 go_wp2_with (with_reducible first|refine wpl_box (o:=⟨some 1,_,_,_,_,_⟩) rfl rfl rfl ?_);intro v_ b_ y_ s_;have HX_:=kp (at_mk b_ HTC.o.len);clear b_ s_;have HG_:=kp HB.o.size;replace HB:=kp (HB.o.grow' y_);generalize x_:w_.heap.size=g1 at HX_ HG_ ⊢;clear x_;have HX_g:=HG_;clear HG_;have HX:=HX_;clear y_ HX_;try clear w_
 rename World=>w_;have c0:=HX.o.blk.at_ HT0.o
 go_upto_block 0 with fail
 go_cut [2] from 8 (fun s2 wr=>∃A3 c3,s2=.slice A3 n c3∧Hid (OwnU wr (g1+1) A3 n c3 ((amI l).map (Value.int .u64))∧At wr g1 27 4 tv∧Below w.heap.size w wr))
 case first =>
  go_wp2_with fail;go_loopw [2,11] (fun s2 iv wr=>∃k:Nat,∃A3 c3,k≤n∧iv=.int .i64 k∧s2=.slice A3 k c3∧Hid (OwnU wr (g1+1) A3 k c3 (((l.take k).map fun p=>p.2.amount).map (Value.int .u64))∧At wr g1 27 4 tv∧Below w.heap.size w wr)) (fun _ iv _=>n - (intOf iv).toNat)
  case atStart=>exact⟨0,none,0,by omega,rfl,rfl,kp ⟨World.ownsRow_nil _ _ _ _,HX.o,HB.o⟩⟩
  case round =>
   obtain⟨k,A3,c3,hk,rfl,rfl,hI⟩:=hrel;clear HX HB c0;have HR:=kp hI.o.1;have HX:=kp hI.o.2.1;have HB:=kp hI.o.2.2;clear hI;rename World=>w_;by_cases hlt:k < n
   ·have HII:=kp (HI.o.grow HB.o);obtain⟨b,off,p,rfl,hp,hok,hc⟩:=HII.o.at_ hlt;have HC:=kp hc;have HP:=kp hp;have HPC:=kp (inV_cl hok);have HP33:=kp (in_at (v:=p.1) hok.2).2.1;have HSN:=kp (am_snoc (fun q:Value×Inp=>q.2.amount) hp);obtain⟨pv,hpv⟩:=xe (inV p.1 p.2);obtain⟨am,ham⟩:=xe p.2.amount;rw[← hpv]at HC HPC;rw[← hpv,← ham]at HP33;rw[← ham]at HSN;obtain⟨xs,hxs⟩:=xe (((l.take k).map fun p=>p.2.amount).map (Value.int .u64));rw[← hxs]at HR HSN;clear hp hok hc hpv ham HII hxs;go_wp2_with (with_reducible first|refine wlm 14 row_tin HC.o HPC.o.len ?_|refine wpl_alloc (o:=⟨some 5,_,_,_,_,_⟩) rfl rfl zero_tin ?_);intro w1_ hb1_ hbw1_ hsz1_;have HB1_:=kp (at_mk hb1_ len_tin);have HBW1_:=kp hbw1_;have HZ1_:=kp hsz1_;clear hb1_ hbw1_ hsz1_;go_wp2_with (with_reducible refine wsb row_tin HB1_.o.blk HB1_.o.len HPC.o.len HPC.o.one ?_);intro v_ b_ g_ s_;have y_:=var_grow HBW1_.o HZ1_.o g_;have HX_:=kp (at_mk b_ HPC.o.len);clear b_ g_ s_ HB1_ HBW1_ HZ1_;replace HB:=kp (HB.o.grow' y_);replace HX:=kp (HX.o.grow y_);replace HR:=kp (HR.o.grow y_);generalize x_:w_.heap.size=g5 at HX_ ⊢;clear x_;have HE:=HX_;clear y_ HX_;clear w1_;try clear w_
    rename World=>w_;have c33:=HE.o.blk.at_ HP33.o;have HGZ:=kq (g1+1≤w_.heap.size) (by have:=HX.o.lt;omega);have HR3:=kq (w_.ownsRow (g1+1) 25 1 (.slice A3 k c3) k xs) HR.o;go_wp2_with (first|(at_builtin;refine wpl_app1 rfl rfl el_us HR3.o rfl (m:=1) rfl ?_ ?_ ?_ ?_ ?_ ?_))
    ·rfl
    ·rfl
    ·omega
    ·omega
    ·exact HGZ.o
    intro A4 c4 w4_ ho_ x_ hA_;have hne_:=own_from HR3.o;have HX_:=kq (At w4_ g1 27 4 tv) (at_mk (HX.o.blk.grown x_ (fun h=>by have:=hne_ _ h.symm;omega)) HX.o.len);have HB_:=kp (below_grown HB.o x_ HB.o.size (fun x hx=>by have:=hne_ _ hx;have:=HX_g.o;omega));have HR_:=kq (OwnU w4_ (g1+1) A4 (k+1) c4 (((l.take (k+1)).map fun p=>p.2.amount).map (Value.int .u64))) (by rw[HSN.o];exact ho_);clear ho_ x_ hA_ hne_ HX HB HR HR3;go_wp2_with fail;go_roundw
    case rel=>exact⟨k+1,A4,c4,by omega,by go_num,rfl,kp ⟨HR_.o,HX_.o,HB_.o⟩⟩
    case measure=>simp [intOf];omega
   ·obtain rfl:k=n:=by omega
    have HRN:=kq (OwnU w_ (g1+1) A3 k c3 ((amI l).map (Value.int .u64))) (by have h:=HR.o;rw[List.take_of_length_le (by have:=HI.o.2.2.1;omega)]at h;exact h);go_wp2_with fail
    go_meet
    case rel=>exact⟨A3,c3,rfl,kp ⟨HRN.o,HX.o,HB.o⟩⟩
 case rest =>
  obtain⟨A3_,c3_,rfl,hI⟩:=hcut;clear HX HB c0;have HU:=kp hI.o.1;have HX:=kp hI.o.2.1;have HB:=kp hI.o.2.2;clear hI;try clear w_
  rename World=>w_;have c1:=HX.o.blk.at_ HT1.o;obtain⟨gs,hgs⟩:=xe w_.heap.size;have HG1:=kq (g1+1≤gs∧w.heap.size≤gs) (by have h1:=HX.o.lt;have h2:=HB.o.size;omega);have HUL:=kq (∀q,A3_.map Addr.block=some q→q < gs) (fun q hq=>by rw[hgs];exact own_lt HU.o q hq);have HGS:=kq (gs≤w_.heap.size) (by omega);clear hgs;go_wp2_with fail;go_loopw [3,24] (fun s3 iv wr=>∃k:Nat,∃A3 c3,k≤n2∧iv=.int .i64 k∧s3=.slice A3 k c3∧Hid (OwnU wr gs A3 k c3 (((os.take k).map Outp.amount).map (Value.int .u64))∧At wr g1 27 4 tv∧Below w.heap.size w wr∧OwnU wr (g1+1) A3_ n c3_ ((amI l).map (Value.int .u64))∧gs≤wr.heap.size)) (fun _ iv _=>n2 - (intOf iv).toNat)
  case atStart=>exact⟨0,none,0,by omega,rfl,rfl,kp ⟨World.ownsRow_nil _ _ _ _,HX.o,HB.o,HU.o,HGS.o⟩⟩
  case round =>
   obtain⟨k,A3,c3,hk,rfl,rfl,hI⟩:=hrel;clear HX HB c1 HU HGS;have HR:=kp hI.o.1;have HX:=kp hI.o.2.1;have HB:=kp hI.o.2.2.1;have HU:=kp hI.o.2.2.2.1;have HGS:=kp hI.o.2.2.2.2;clear hI;rename World=>w_;by_cases hlt:k < n2
   ·have HII:=kp (HO.o.grow HB.o);obtain⟨b,off,p,rfl,hp,hok,hc⟩:=HII.o.at_ hlt;have HC:=kp hc;have HPC:=kp (outV_cl hok);have HP33:=kp (out_at hok);have HSN:=kp (am_snoc Outp.amount hp);obtain⟨pv,hpv⟩:=xe (outV p);obtain⟨am,ham⟩:=xe p.amount;rw[← hpv]at HC HPC;rw[← hpv,← ham]at HP33;rw[← ham]at HSN;have HSZ:=kq (SzG w_ gs) HGS.o;obtain⟨xs,hxs⟩:=xe (((os.take k).map Outp.amount).map (Value.int .u64));rw[← hxs]at HR HSN;clear hp hok hc hpv ham HII hxs;go_wp2_with (with_reducible first|refine wlm 27 row_tout HC.o HPC.o.len ?_|refine wpl_alloc (o:=⟨some 7,_,_,_,_,_⟩) rfl rfl zero_tout ?_);intro w1_ hb1_ hbw1_ hsz1_;have HB1_:=kp (at_mk hb1_ len_tout);have HBW1_:=kp hbw1_;have HZ1_:=kp hsz1_;clear hb1_ hbw1_ hsz1_;go_wp2_with (with_reducible refine wsb row_tout HB1_.o.blk HB1_.o.len HPC.o.len HPC.o.one ?_);intro v_ b_ g_ s_;have y_:=var_grow HBW1_.o HZ1_.o g_;have HX_:=kp (at_mk b_ HPC.o.len);clear b_ g_ s_ HB1_ HBW1_ HZ1_;replace HB:=kp (HB.o.grow' y_);replace HX:=kp (HX.o.grow y_);replace HR:=kp (HR.o.grow y_);replace HU:=kp (HU.o.grow y_);replace HSZ:=kp (HSZ.o.grow y_);generalize x_:w_.heap.size=g7 at HX_ ⊢;clear x_;have HE:=HX_;clear y_ HX_;clear w1_;try clear w_
    rename World=>w_;have c33:=HE.o.blk.at_ HP33.o;have HGZ:=kq (gs≤w_.heap.size) HSZ.o;have HR3:=kq (w_.ownsRow gs 25 1 (.slice A3 k c3) k xs) HR.o;go_wp2_with (first|(at_builtin;refine wpl_app1 rfl rfl el_us HR3.o rfl (m:=1) rfl ?_ ?_ ?_ ?_ ?_ ?_))
    ·rfl
    ·rfl
    ·omega
    ·omega
    ·exact HGZ.o
    intro A4 c4 w4_ ho_ x_ hA_;have hne_:=own_from HR3.o;have HX_:=kq (At w4_ g1 27 4 tv) (at_mk (HX.o.blk.grown x_ (fun h=>by have:=hne_ _ h.symm;have:=HG1.o;omega)) HX.o.len);have HB_:=kp (below_grown HB.o x_ HB.o.size (fun x hx=>by have:=hne_ _ hx;have:=HX_g.o;have:=HG1.o;omega));have HR_:=kq (OwnU w4_ gs A4 (k+1) c4 ((((os.take (k+1)).map Outp.amount)).map (Value.int .u64))) (by rw[HSN.o];exact ho_);have HU_:=kq (OwnU w4_ (g1+1) A3_ n c3_ ((amI l).map (Value.int .u64))) (own_kept HU.o x_ (fun q hq he=>by have h1:=hne_ _ he.symm;have h2:=HUL.o q (by rw[hq];rfl);omega));have HSZ_:=kq (gs≤w4_.heap.size) (Nat.le_trans HGZ.o x_.size);clear ho_ x_ hA_ hne_ HX HB HR HR3 HU;go_wp2_with fail;go_roundw
    case rel=>exact⟨k+1,A4,c4,by omega,by go_num,rfl,kp ⟨HR_.o,HX_.o,HB_.o,HU_.o,HSZ_.o⟩⟩
    case measure=>simp [intOf];omega
   ·obtain rfl:k=n2:=by omega
    have HRN:=kq (OwnU w_ gs A3 k c3 ((amO os).map (Value.int .u64))) (by have h:=HR.o;rw[List.take_of_length_le (by have:=HO.o.2.2.1;omega)]at h;exact h);go_wp2_with fail
    go_ret2
    exact⟨_,_,_,_,rfl,own_base HU.o (by have:=HX_g.o;omega),own_base HRN.o (by have:=HG1.o;omega),HB.o⟩
theorem twithin_any(a b c:Int)(w:World):Calls Tryz.prog 98 #[.int .i64 a,.int .i64 b,.int .i64 c] w fun e w'=>e=.returned (.bool (inB a b c))∧w=w':=by
 obtain⟨p,hp⟩:∃p,decide (b≤a)=p:=⟨_,rfl⟩;obtain⟨q,hq⟩:∃q,decide (a≤c)=q:=⟨_,rfl⟩;have HR:=kq (inB a b c=(p && q)) (by unfold inB;rw[← hp,← hq]);rw[HR.o];clear HR
 go_enter Tryz.func98,Tryz.ntmps98
 cases p <;> cases q <;> (go_wp2;go_ret;exact⟨rfl,rfl⟩)
theorem long1_any {w : World} {pv : List Value} {A : Option Addr} {c : Nat} {i : Inp} (hp : pv = inV (.slice A i.secret.length c) i) (hk : i.ok) (w : World) :
  Calls Tryz.prog 100 #[.agg pv.toArray] w fun e w'=>e=.returned (.bool (longI i))∧Grow w w':=by
 have HPC:=kp (show Cl 35 pv from⟨by rw[hp];exact inV_len hk,fun u hu=>by
  rw[hp]at hu;unfold inV at hu;simp only [List.mem_append,List.mem_map,List.mem_cons,List.not_mem_nil,or_false]at hu
  rcases hu with ⟨_,_,rfl⟩|rfl|rfl|rfl <;> rfl⟩)
 obtain⟨n,hn⟩:=xe i.secret.length;obtain⟨ix,hix⟩:=xe i.index;have H34:=kq (pv[34]? = some (.slice A n c)) (by rw[hp,hn];exact(in_at hk).2.2);have H32:=kq (pv[32]? = some (.int .i64 ix)) (by rw[hp,hix];exact(in_at hk).1);obtain⟨p,hpp⟩:∃p,decide ((64:Int) < (n:Int))=p:=⟨_,rfl⟩;obtain⟨q,hq⟩:∃q,inB ix 0 15=q:=⟨_,rfl⟩;have HQ:=kp (fun w=>twithin_any ix 0 15 w);rw[hq]at HQ;have HR:=kq (longI i=(p || !q)) (by unfold longI;rw[← hpp,← hq,hn,hix];congr 1;rw[Bool.eq_iff_iff];simp;omega);rw[HR.o];clear HR hp hn hix hq;refine bq (fun w_ HB=>?_)
 go_enter Tryz.func100,Tryz.ntmps100
 go_wp2_with (with_reducible first|refine wpl_box (o:=⟨some 1,_,_,_,_,_⟩) rfl rfl rfl ?_);intro v_ b_ y_ s_;have HX_:=kp (at_mk b_ HPC.o.len);clear b_ s_;have HG_:=kp HB.o.size;replace HB:=kp (HB.o.grow' y_);generalize x_:w_.heap.size=g1 at HX_ HG_ ⊢;clear x_;have HX_g:=HG_;clear HG_;have HX:=HX_;clear y_ HX_;try clear w_
 rename World=>w_;have c34:=HX.o.blk.at_ H34.o;have c32:=HX.o.blk.at_ H32.o;cases p with
 | true =>
  go_wp2_with fail;go_ret
  exact⟨rfl,HB.o⟩
 | false =>
  go_wp2_with fail;refine(HQ.o _).mono ?_;rintro e v_ ⟨rfl,rfl⟩;go_wp2_with fail;go_ret
  exact⟨by first|rfl|simp,HB.o⟩
theorem any_take{α:Type}(f:α→Bool){l:List α}{k:Nat}{p:α}(h:l[k]? = some p):(l.take (k+1)).any f=((l.take k).any f || f p):=by
 rw[take_snoc h,List.any_append];simp
theorem indexf_any {A : Option Addr} {n c : Nat} {l : List (Value × Inp)} (w : World) (hi : InsAt w A n c l) (hn : n ≤ 1000000) :
  Calls Tryz.prog 116 #[.slice A n c,.func (.func 100) #[] #[]] w fun e w'=>∃r:Int,e=.returned (.int .i64 r)∧(0≤r↔(l.map Prod.snd).any longI=true)∧Grow w w':=by
 have HI:=kp hi;obtain⟨w_,hw⟩:=xe w;have HB:=kq (Below w.heap.size w w_) (by rw[hw];exact Below.refl _ _)
 suffices H:Calls Tryz.prog 116 #[.slice A n c,.func (.func 100) #[] #[]] w_ fun e w'=>∃r:Int,e=.returned (.int .i64 r)∧(0≤r↔(l.map Prod.snd).any longI=true)∧Grow w w' by rw[hw]at H;exact H
 clear hw hi
 go_enter Tryz.func116,Tryz.ntmps116
 go_wp2_with fail;go_loopw [8] (fun iv wr=>∃k:Nat,k≤n∧iv=.int .i64 k∧Hid (((l.map Prod.snd).take k).any longI=false∧Below w.heap.size w wr)) (fun iv _=>n - (intOf iv).toNat)
 case atStart=>exact⟨0,by omega,rfl,kp ⟨by simp,HB.o⟩⟩
 case round =>
  obtain⟨k,hk,rfl,hI⟩:=hrel;clear HB;have HN:=kp hI.o.1;have HB:=kp hI.o.2;clear hI;rename World=>w_;by_cases hlt:k < n
  ·have HII:=kp (HI.o.grow HB.o);obtain⟨b,off,p,rfl,hp,hok,hc⟩:=HII.o.at_ hlt;have HC:=kp hc;have HPC:=kp (inV_cl hok);obtain⟨A4,c4,e4,_,_⟩:=hok.1;have HL:=kp (fun w=>long1_any (w:=w) (pv:=inV p.1 p.2) (A:=A4) (c:=c4) (by rw[e4]) hok.2 w);have HSN:=kp (any_take longI (l:=l.map Prod.snd) (k:=k) (p:=p.2) (by rw[List.getElem?_map,hp];rfl));have HME:=kq (p.2∈l.map Prod.snd) (List.mem_map_of_mem (List.mem_of_getElem? hp));obtain⟨pv,hpv⟩:=xe (inV p.1 p.2);rw[← hpv]at HC HPC HL;obtain⟨lg,hlg⟩:=xe (longI p.2);have HLG:=kp hlg;rw[← hlg]at HL HSN;clear hp hok hc hpv hlg e4 HII;go_wp2_with (with_reducible refine wlm 15 row_tin HC.o HPC.o.len ?_);refine(HL.o _).mono ?_;rintro e v_ ⟨rfl,y_⟩;have HB_:=kp (HB.o.grow' y_);clear y_ HB HL;cases lg with
   | true =>
    go_wp2_with fail;go_ret
    exact⟨_,rfl,⟨fun _=>List.any_eq_true.2 ⟨_,HME.o,HLG.o.symm⟩,fun _=>by omega⟩,HB_.o⟩
   | false =>
    go_wp2_with fail;go_roundw
    case rel=>exact⟨k+1,by omega,by go_num,kp ⟨by rw[HSN.o,HN.o];rfl,HB_.o⟩⟩
    case measure=>simp [intOf];omega
  ·obtain rfl:k=n:=by omega
   have HAN:=kq ((l.map Prod.snd).any longI=false) (by have h:=HN.o;rw[List.take_of_length_le (by rw[List.length_map];have:=HI.o.2.2.1;omega)] at h;exact h);go_wp2_with fail;go_ret
   exact⟨_,rfl,⟨fun h=>by omega,fun h=>by rw[HAN.o]at h;cases h⟩,HB.o⟩
theorem containsf_any {A : Option Addr} {n c : Nat} {l : List (Value × Inp)} (w : World) (hi : InsAt w A n c l) (hn : n ≤ 1000000) :
  Calls Tryz.prog 99 #[.slice A n c,.func (.func 100) #[] #[]] w fun e w'=>e=.returned (.bool ((l.map Prod.snd).any longI))∧Grow w w':=by
 have HI:=kp hi;have HX:=kp (fun w h=>indexf_any (A:=A) (n:=n) (c:=c) (l:=l) w h hn);obtain⟨q,hq⟩:=xe ((l.map Prod.snd).any longI);rw[← hq]at HX ⊢;clear hi hq
 go_enter Tryz.func99,Tryz.ntmps99
 go_wp2_with fail;refine(HX.o _ HI.o).mono ?_;rintro e v_ ⟨r,rfl,hr,hb⟩;have HB:=kp hb;cases q with
 | true =>
  have d0:decide ((0:Int)≤r)=true:=by simpa using hr
  have h0:0≤r:=by simpa using hr
  clear hr hb;go_wp2_with fail;go_ret
  exact⟨by first|rfl|simp,HB.o⟩
 | false =>
  have h0:¬ 0≤r:=by simpa using hr
  have d0:decide ((0:Int)≤r)=false:=by simpa using h0
  clear hr hb;go_wp2_with fail;go_ret
  exact⟨by first|rfl|simp,HB.o⟩
theorem islong_any {A : Option Addr} {n c : Nat} {A2 : Option Addr} {n2 c2 : Nat} {fee ex : Int} {l : List (Value × Inp)} {os : List Outp} (w : World) (hi : InsAt w A n c l) (hos : os.length = n2) (hn : n ≤ 1000000) (hn2 : n2 ≤ 1000000) (hex : I64 ex) :
  Calls Tryz.prog 70 #[.agg (txV A n c A2 n2 c2 fee ex).toArray] w fun e w'=>e=.returned (.bool (longT ⟨l.map Prod.snd,os,fee,ex⟩))∧Grow w w':=by
 have HI:=kp hi;have HTC:=kp (txV_cl (A:=A) (n:=n) (c:=c) (A2:=A2) (n2:=n2) (c2:=c2) (fee:=fee) (ex:=ex));have HT0:=kq ((txV A n c A2 n2 c2 fee ex)[0]? = some (.slice A n c)) rfl;have HT1:=kq ((txV A n c A2 n2 c2 fee ex)[1]? = some (.slice A2 n2 c2)) rfl;have HT3:=kq ((txV A n c A2 n2 c2 fee ex)[3]? = some (.int .i64 ex)) rfl;obtain⟨tv,htv⟩:=xe (txV A n c A2 n2 c2 fee ex);rw[← htv]at HTC HT0 HT1 HT3 ⊢;obtain⟨p,hp⟩:∃p,inB (n:Int) 1 16=p:=⟨_,rfl⟩;obtain⟨q,hq⟩:∃p,inB (n2:Int) 1 16=p:=⟨_,rfl⟩;obtain⟨r,hr⟩:∃p,inB ex 0 1099511627776=p:=⟨_,rfl⟩;have W1:=kp (fun w=>twithin_any (n:Int) 1 16 w);have W2:=kp (fun w=>twithin_any (n2:Int) 1 16 w);have W3:=kp (fun w=>twithin_any ex 0 1099511627776 w);rw[hp]at W1;rw[hq]at W2;rw[hr]at W3;have HR:=kq (longT ⟨l.map Prod.snd,os,fee,ex⟩=(!(p && q && r) ||(l.map Prod.snd).any longI)) (by unfold longT shortT;simp only [List.length_map];rw[hi.2.2.1,hos,hp,hq,hr]);have HCF:=kp (fun w h=>containsf_any (A:=A) (n:=n) (c:=c) (l:=l) w h hn);obtain⟨z,hz⟩:=xe ((l.map Prod.snd).any longI);rw[← hz]at HR HCF;rw[HR.o];obtain⟨w_,hw⟩:=xe w;have HB:=kq (Below w.heap.size w w_) (by rw[hw];exact Below.refl _ _)
 suffices H:Calls Tryz.prog 70 #[.agg tv.toArray] w_ fun e w'=>e=.returned (.bool (!(p && q && r) || z))∧Grow w w' by rw[hw]at H;exact H
 clear hw hi htv hp hq hr hz HR hex hos
 go_enter Tryz.func70,Tryz.ntmps70
 go_wp2_with (with_reducible first|refine wpl_box (o:=⟨some 1,_,_,_,_,_⟩) rfl rfl rfl ?_);intro v_ b_ y_ s_;have HX_:=kp (at_mk b_ HTC.o.len);clear b_ s_;have HG_:=kp HB.o.size;replace HB:=kp (HB.o.grow' y_);generalize x_:w_.heap.size=g1 at HX_ HG_ ⊢;clear x_;have HX_g:=HG_;clear HG_;have HX:=HX_;clear y_ HX_;try clear w_
 rename World=>w_;have c0:=HX.o.blk.at_ HT0.o;have c1:=HX.o.blk.at_ HT1.o;have c3:=HX.o.blk.at_ HT3.o;go_wp2_with fail;refine(W1.o _).mono ?_;rintro e v_ ⟨rfl,rfl⟩;cases p with
 | false =>
  go_wp2_with fail;go_ret
  exact⟨by first|rfl|simp,HB.o⟩
 | true =>
  go_wp2_with fail;refine(W2.o _).mono ?_;rintro e v_ ⟨rfl,rfl⟩;cases q with
  | false =>
   go_wp2_with fail;go_ret
   exact⟨by first|rfl|simp,HB.o⟩
  | true =>
   go_wp2_with fail;refine(W3.o _).mono ?_;rintro e v_ ⟨rfl,rfl⟩;cases r with
   | false =>
    go_wp2_with fail;go_ret
    exact⟨by first|rfl|simp,HB.o⟩
   | true =>
    go_wp2_with fail;refine(HCF.o _ (HI.o.grow HB.o)).mono ?_;rintro e v_ ⟨rfl,y_⟩;have HB_:=kp (HB.o.grow' y_);go_wp2_with fail;go_ret
    exact⟨by first|rfl|simp,HB_.o⟩
theorem index64_any {A : Option Addr} {n c : Nat} {zs : List Int} {x : Int} (w : World) (hs : Sl w w.heap.size 1 A n (zs.map (Value.int .u64))) (hn : n ≤ 1000000) :
  Calls Tryz.prog 101 #[.slice A n c,.int .u64 x] w fun e w'=>∃r:Int,e=.returned (.int .i64 r)∧(0≤r↔x∈zs)∧w=w':=by
 have HS:=kp hs;have hl:zs.length=n:=by have:=hs.len;simpa using this
 have HL:=kp hl;clear hs hl
 go_enter Tryz.func101,Tryz.ntmps101
 go_wp2_with fail;go_loopw [8] (fun iv wr=>∃k:Nat,k≤n∧iv=.int .i64 k∧Hid (x∉zs.take k)∧wr=w) (fun iv _=>n - (intOf iv).toNat)
 case atStart=>exact⟨0,by omega,rfl,kp (by simp),rfl⟩
 case round =>
  obtain⟨k,hk,rfl,hnot,rfl⟩:=hrel;by_cases hlt:k < n
  ·obtain⟨b,off,u,rfl,hb,hu,hc⟩:=HS.o.at_ hlt;rw[List.getElem?_map]at hu;obtain⟨z,hz,rfl⟩:=Option.map_eq_some_iff.1 hu;have HZ:=kp hz;have hc1:=hc;clear hu hz hb hc;by_cases hxz:x=z
   ·subst hxz;have HME:=kp (List.mem_of_getElem? HZ.o);go_wp2_with fail;go_ret
    exact⟨_,rfl,⟨fun _=>HME.o,fun _=>by omega⟩,rfl⟩
   ·have d0:(x == z)=false:=by simpa using hxz
    have HNN:=kq (x∉zs.take (k+1)) (by rw[take_snoc HZ.o];simp only [List.mem_append,List.mem_cons,List.not_mem_nil,or_false];rintro(h|h);exact hnot.o h;exact hxz h);clear hxz;go_wp2_with fail;go_roundw
    case rel=>exact⟨k+1,by omega,by go_num,HNN,by first|trivial|rfl⟩
    case measure=>simp [intOf];omega
  ·obtain rfl:k=n:=by omega
   have HNA:=kq (x∉zs) (by have h:=hnot.o;rw[List.take_of_length_le (by have:=HL.o;omega)]at h;exact h);go_wp2_with fail;go_ret
   exact⟨_,rfl,⟨fun h=>by omega,fun h=>absurd h HNA.o⟩,rfl⟩
theorem contains64_any {A : Option Addr} {n c : Nat} {zs : List Int} {x : Int} (w : World) (hs : Sl w w.heap.size 1 A n (zs.map (Value.int .u64))) (hn : n ≤ 1000000) :
  Calls Tryz.prog 72 #[.slice A n c,.int .u64 x] w fun e w'=>e=.returned (.bool (zs.contains x))∧w=w':=by
 have HX:=kp (index64_any (A:=A) (n:=n) (c:=c) (zs:=zs) (x:=x) w hs hn);obtain⟨q,hq⟩:=xe (zs.contains x);have HQ:=kq (q=true↔x∈zs) (by rw[hq];exact List.contains_iff_mem);rw[← hq];clear hs hq
 go_enter Tryz.func72,Tryz.ntmps72
 go_wp2_with fail;refine HX.o.mono ?_;rintro e v_ ⟨r,rfl,hr,rfl⟩;rw[← HQ.o]at hr;cases q with
 | true =>
  have h0:0≤r:=by simpa using hr
  have d0:decide ((0:Int)≤r)=true:=by simpa using h0
  clear hr;go_wp2_with fail;go_ret
  exact⟨by first|rfl|simp,rfl⟩
 | false =>
  have h0:¬ 0≤r:=by simpa using hr
  have d0:decide ((0:Int)≤r)=false:=by simpa using h0
  clear hr;go_wp2_with fail;go_ret
  exact⟨by first|rfl|simp,rfl⟩
def ptKV(x:List UInt8×Int):List Value:=x.1.map B++[.int .i64 x.2]
def ptKA(x:List UInt8×Int):Value:=.agg (ptKV x).toArray
def ptKO(x:List UInt8×Int):Prop:=x.1.length=32∧I64 x.2
theorem ptKV_len{x:List UInt8×Int}(h:ptKO x):(ptKV x).length=33:=by simp [ptKV,h.1]
theorem key_pt:WideMaps.KeyLaw Tryz.prog 69:=deep_law_laid laid_out' (m:=3) (by omega) (of_decide_eq_true (by kernel_rfl)) (by kernel_rfl) (by kernel_rfl)
theorem lits_pt(d:Nat)(x:List UInt8×Int)(h:ptKO x):∃l,Tryz.prog.keyLits (d+3) 69 (ptKV x)=some l:=by
 refine kl_struct Tryz.underlying69 _ _ (by rw[ptKV_len h,cells_point]) (by kernel_rfl) ?_;have e0:(x.1.map B).length=32:=by rw[List.length_map,h.1]
 intro f hf;simp only [List.mem_cons,List.not_mem_nil,or_false]at hf;rcases hf with rfl|rfl
 ·have:List.take 32 (List.drop 0 (ptKV x))=x.1.map B:=by unfold ptKV;rw[List.drop_zero,List.take_append_of_le_length (by omega),List.take_of_length_le (by omega)]
  simp only [cells_id,this];exact lits_id _ _ h.1
 ·have:List.take 1 (List.drop 32 (ptKV x))=[.int .i64 x.2]:=by unfold ptKV;rw[List.drop_append_of_le_length (by omega),List.drop_of_length_le (by omega)];rfl
  simp only [cells_int,this];exact kl_int Tryz.underlying3 _ _ h.2.wf
theorem keyOf_ptK(x:List UInt8×Int)(h:ptKO x):∃l,keyOf Tryz.prog 69 (ptKA x)=some l:=by
 obtain⟨n4,hn4⟩:=types_3;exact keyOf_ex (by kernel_rfl) (by kernel_rfl) (ptKV x) (by rw[ptKV_len h,cells_point]) (by rw[hn4];exact lits_pt (n4+1) _ h)
theorem map_B_injT:∀{a b:List UInt8},a.map B=b.map B→a=b
 |[],[],_=>rfl
 |[],_::_,h=>by simp at h
 | _::_,[],h=>by simp at h
 | x::a,y::b,h=>by
  simp only [List.map_cons,List.cons.injEq]at h;have h1:x=y:=by have:=h.1;unfold B at this;exact b8_inj (by injection this)
  rw[h1,map_B_injT h.2]
theorem ptKA_inj{x y:List UInt8×Int}(hx:x.1.length=32)(hy:y.1.length=32)(h:ptKA x=ptKA y):x=y:=by
 unfold ptKA at h;have h2:ptKV x=ptKV y:=by simpa using h
 unfold ptKV at h2;have h3:=List.append_inj h2 (by simp [hx,hy]);exact Prod.ext (map_B_injT h3.1) (by simpa using h3.2)
def encP(L:List (List UInt8×Int)):List (Value×Value):=L.map fun x=>(ptKA x,.int .i64 1)
structure SeenAt (w:World) (b:Nat) (L:List (List UInt8×Int)):Prop where
 map:∃es clock,w.heap[b]? = some (.map es clock)∧MapOK Tryz.prog 69 es clock∧kvs es=encP L
 ok:∀x∈L,ptKO x
 nodup:L.Nodup
theorem SeenAt.lt{w:World}{b:Nat}{L:List (List UInt8×Int)}(h:SeenAt w b L):b < w.heap.size:=by
 obtain⟨es,clock,h3,_⟩:=h.map;exact(Array.getElem?_eq_some_iff.1 h3).1
theorem SeenAt.grow{w w':World}{b:Nat}{L:List (List UInt8×Int)}(h:SeenAt w b L)(k:Grow w w'):SeenAt w' b L:=by
 have hl:=h.lt;obtain⟨es,clock,h3,h4⟩:=h.map;exact⟨⟨es,clock,(k.block b hl).trans h3,h4⟩,h.ok,h.nodup⟩
section
variable {P:Program} {w:World} {t k e:TypeId} {es:Array MapEntry} {clock b:Nat} {x:Value} {lx:Lit}
theorem run_lookup1_no (K : WideMaps.KeyLaw P k) (ht : P.underlying t = some (.map k e)) (hb : w.heap[b]? = some (.map es clock)) (h : MapOK P k es clock) (hx : keyOf P k x = some lx) (hno : ∀ p ∈ kvs es, p.1 ≠ x)
  {z:Value} (hz:∀w,(zeroValue e).run P w=.ok z w):(Instr.lookup t (.map (some b)) x false).run P w=.ok z w:=by
 simp [Instr.lookup,run_underlying ht,MapKept.run_getObj_map hb,K.check w _ hx,h.find_no K hx hno w,hz]
theorem run_lookup1_yes (K : WideMaps.KeyLaw P k) (ht : P.underlying t = some (.map k e)) (hb : w.heap[b]? = some (.map es clock)) (h : MapOK P k es clock) (hx : keyOf P k x = some lx) {j : Nat} {en : MapEntry} (hj : es[j]? = some en) (hk : en.key = x) :
  (Instr.lookup t (.map (some b)) x false).run P w=.ok en.val w:=by
 simp [Instr.lookup,run_underlying ht,MapKept.run_getObj_map hb,K.check w _ hx,h.find_yes K hx hj hk w]
end
theorem zeroV_int(w:World):(zeroValue 3).run Tryz.prog w=.ok (.int .i64 0) w:=by kernel_rfl
theorem SeenAt.none{w:World}{b:Nat}{L:List (List UInt8×Int)}(h:SeenAt w b L){x:List UInt8×Int}(hx:ptKO x)(hno:x∉L){es:Array MapEntry}{clock:Nat}(h3:w.heap[b]? = some (.map es clock)):∀p∈kvs es,p.1≠ptKA x:=by
 obtain⟨es',clock',h3',_,h5⟩:=h.map;rw[h3]at h3';injection h3' with h3'
 injection h3' with e1 e2
 subst e1;intro p hp e;rw[h5]at hp;obtain⟨y,hy,rfl⟩:=List.mem_map.1 hp;have:=ptKA_inj (h.ok y hy).1 hx.1 e;subst this;exact hno hy
theorem SeenAt.look{w:World}{b:Nat}{L:List (List UInt8×Int)}(h:SeenAt w b L){x:List UInt8×Int}(hx:ptKO x):(Instr.lookup 164 (.map (some b)) (ptKA x) false).run Tryz.prog w=.ok (.int .i64 (if x∈L then 1 else 0)) w:=by
 obtain⟨lx,hlx⟩:=keyOf_ptK x hx;obtain⟨es,clock,h3,h4,h5⟩:=h.map;by_cases hm:x∈L
 ·rw[if_pos hm];obtain⟨j,hj,hje⟩:=List.getElem_of_mem hm;have e1:(kvs es)[j]? = some (ptKA x,.int .i64 1):=by rw[h5];unfold encP;rw[List.getElem?_map,List.getElem?_eq_getElem hj,hje];rfl
  unfold kvs at e1;rw[List.getElem?_map]at e1;obtain⟨en,he,e2⟩:=Option.map_eq_some_iff.1 e1;have he':es[j]? = some en:=by simpa using he
  have:=run_lookup1_yes key_pt Tryz.underlying164 h3 h4 hlx he' (by injection e2);injection e2 with e3 e4
  rw[e4]at this;exact this
 ·rw[if_neg hm];exact run_lookup1_no key_pt Tryz.underlying164 h3 h4 hlx (h.none hx hm h3) zeroV_int
def seenC(w0:World)(b:Nat)(es:Array MapEntry)(clock:Nat)(x:List UInt8×Int):Nat→World→Prop
 | 0,w=>w0.grownBy w (some b)∧w.heap[b]? = some (.map es clock)
 | 1,w=>w0.grownBy w (some b)∧w.heap[b]? = some (.map (es.push { key:=ptKA x,val:=.int .i64 0,born:=clock }) (clock+1))
 | _+2,w=>w0.grownBy w (some b)∧w.heap[b]? = some (.map ((es.push { key:=ptKA x,val:=.int .i64 0,born:=clock }).modify es.size fun e=>{ e with val:=.int .i64 1 }) (clock+1))
section
variable {w0 w:World} {b:Nat} {es:Array MapEntry} {clock:Nat} {x:List UInt8×Int} {lx:Lit}
theorem seenC.low:∀k w,seenC w0 b es clock x k w→w0.grownBy w (some b)
 | 0,w,h=>h.1
 | 1,w,h=>h.1
 | _+2,w,h=>h.1
theorem seenC.entry(h:seenC w0 b es clock x 0 w):seenC w0 b es clock x 1 (withBlk w b (.map (es.push { key:=ptKA x,val:=.int .i64 0,born:=clock }) (clock+1))):=
 ⟨grownBy_trans h.1 (withBlk_grown _ _ _),withBlk_heap h.2⟩
theorem seenC.fill(h:seenC w0 b es clock x 1 w):seenC w0 b es clock x 2 (withBlk w b (.map ((es.push { key:=ptKA x,val:=.int .i64 0,born:=clock }).modify es.size fun e=>{ e with val:=.int .i64 1 }) (clock+1))):=
 ⟨grownBy_trans h.1 (withBlk_grown _ _ _),withBlk_heap h.2⟩
theorem seenC.run0 (h : seenC w0 b es clock x 0 w) (hm : MapOK Tryz.prog 69 es clock) (hx : keyOf Tryz.prog 69 (ptKA x) = some lx) (hno : ∀ q ∈ kvs es, q.1 ≠ ptKA x) :
  (Instr.mapEntry 164 (.map (some b)) (ptKA x)).run Tryz.prog w=.ok (.tuple #[.int .i64 0,goInt clock]) (withBlk w b (.map (es.push { key:=ptKA x,val:=.int .i64 0,born:=clock }) (clock+1))):=
 run_mapEntry_no key_pt Tryz.underlying164 h.2 hm hx hno zeroV_int
theorem seenC.run1 (h : seenC w0 b es clock x 1 w) (hm : MapOK Tryz.prog 69 es clock) (hx : keyOf Tryz.prog 69 (ptKA x) = some lx) (hno : ∀ q ∈ kvs es, q.1 ≠ ptKA x) :
  (Instr.entryStore 164 (.map (some b)) (.int .i64 clock) (.int .i64 1)).run Tryz.prog w=.ok () (withBlk w b (.map ((es.push { key:=ptKA x,val:=.int .i64 0,born:=clock }).modify es.size fun e=>{ e with val:=.int .i64 1 }) (clock+1))):=
 run_entryStore Tryz.underlying164 h.2 (hm.push hx hno _) (j:=es.size) (en:={ key:=ptKA x,val:=.int .i64 0,born:=clock }) (by simp) (.int .i64 1)
theorem seenC.look (hm : MapOK Tryz.prog 69 es clock) (hx : keyOf Tryz.prog 69 (ptKA x) = some lx) (hno : ∀ q ∈ kvs es, q.1 ≠ ptKA x) :
  ∀k w,k≤1→seenC w0 b es clock x k w→(Instr.lookup 164 (.map (some b)) (ptKA x) false).run Tryz.prog w=.ok (.int .i64 0) w
 | 0,w,_,h=>run_lookup1_no key_pt Tryz.underlying164 h.2 hm hx hno zeroV_int
 | 1,w,_,h=>run_lookup1_yes key_pt Tryz.underlying164 h.2 (hm.push hx hno _) hx (j:=es.size) (en:={ key:=ptKA x,val:=.int .i64 0,born:=clock }) (by simp) rfl
 | _+2,w,hk,h=>by omega
theorem seenC.done {L : List (List UInt8 × Int)} (h : seenC w0 b es clock x 2 w) (hm : MapOK Tryz.prog 69 es clock) (hx : keyOf Tryz.prog 69 (ptKA x) = some lx) (hno : ∀ q ∈ kvs es, q.1 ≠ ptKA x) (hL : kvs es = encP L) (hok : ∀ y ∈ L, ptKO y) (hxo : ptKO x) (hnd : L.Nodup) (hnm : x ∉ L) :
  SeenAt w b (L++[x]):=by
 refine⟨⟨_,_,h.2,(hm.push hx hno _).modify _ _,?_⟩,fun y hy=>?_,?_⟩
 ·rw[kvs_modify (en:={ key:=ptKA x,val:=.int .i64 0,born:=clock }) (by simp),kvs_push,hL];have:es.size=(encP L).length:=by rw[← hL,kvs_length]
  rw[this];simp [encP]
 ·rcases List.mem_append.1 hy with h|h
  ·exact hok y h
  ·rw[List.mem_singleton.1 h];exact hxo
 ·rw[List.nodup_append];exact⟨hnd,by simp,fun a ha c hc e=>by rw[List.mem_singleton.1 hc]at e;subst e;exact hnm ha⟩
end
section
variable {P:Program} {C:Nat→World→Prop} {M:List Nat} {R:List (Nat×Nat)} {ops:Array Oper} {Q:Act→Prop} {rest:List Oper} {i:Nat} {a:Act} {o:Oper}
theorem ph_loadm {T : TypeId} {x : Operand} {n b off : Nat} {cs : List Value} (hM : M.contains i = false) (hw : Region.wanted o (yielded ops a.tmps) = true) (ho : o.op = .load T x) (hT : RowT P T n)
  (hb:∀k,phLo R i≤k→k≤phHi R i→∀w,C k w→∀j u,cs[j]? = some u→w.cell? ⟨b,off+j,none⟩=some u) (hx:a.eval x=.pointer (some ⟨b,off,none⟩)) (hn:cs.length=n)
  (hk:∀K:Act→Prop,(∀a,wpPhase P C M R ops Q rest (i+1) a→K a)→K (a.put o.dst (.agg cs.toArray))):wpPhase P C M R ops Q (o::rest) i a:=by
 refine ph_value hM hw (fun k h1 h2 w hC=>?_) hk;obtain⟨d,hu,hd,hi⟩:=hT;have hrun:=run_loadVar_mid (P:=P) w b off T cs d (hb k h1 h2 w hC) hu (by cases d <;> simp_all) (by rw[hi,hn]);unfold execOp;simp only [ho,hx,Instr.loadAt,Instr.sureAddr,Sem.run_bind,Sem.run_pure,Result.andThen_ok,hrun]
end
end Go.Proofs.YtnnjjbkdjkjnpaaGreatDoor
namespace Go.Proofs.YtnnjjbkdjkjnpaaGreatDoor
open Go.RowKit Go.Shelf
theorem pt_cells{w:World}{g:Nat}{i:Inp}{v:Value}(hb:Blk w g 72 (inV v i))(hk:i.ok):∀(j:Nat) (u:Value),(ptKV i.pt)[j]? = some u→w.cell? ⟨g,0+j,none⟩=some u:=by
 intro j u hu;refine hb.at_ (i:=0+j) ?_;rw[Nat.zero_add];have e:inV v i=ptKV i.pt++[.int .u64 i.amount,v]:=by simp [inV,ptKV,Inp.pt]
 rw[e,List.getElem?_append_left (List.getElem?_eq_some_iff.1 hu).1];exact hu
theorem istwice_any {A : Option Addr} {n c : Nat} {A2 : Option Addr} {n2 c2 : Nat} {fee ex : Int} {l : List (Value × Inp)} {os : List Outp} (w : World) (hi : InsAt w A n c l) (hn : n ≤ 1000000) :
  Calls Tryz.prog 71 #[.agg (txV A n c A2 n2 c2 fee ex).toArray] w fun e w'=>e=.returned (.bool (twiceT ⟨l.map Prod.snd,os,fee,ex⟩))∧Grow w w':=by
 have HI:=kp hi;have HTC:=kp (txV_cl (A:=A) (n:=n) (c:=c) (A2:=A2) (n2:=n2) (c2:=c2) (fee:=fee) (ex:=ex));have HT0:=kq ((txV A n c A2 n2 c2 fee ex)[0]? = some (.slice A n c)) rfl;obtain⟨tv,htv⟩:=xe (txV A n c A2 n2 c2 fee ex);rw[← htv]at HTC HT0 ⊢;obtain⟨ps,hps⟩:=xe ((l.map Prod.snd).map Inp.pt);have HPS:=kp hps;have HTW:=kq (twiceT ⟨l.map Prod.snd,os,fee,ex⟩=!decide ps.Nodup) (by rw[hps];rfl);rw[HTW.o];have hmm:∀w,(Instr.makeMap 164 none).run Tryz.prog w=.ok (.map (some w.heap.size)) (w.alloc (.map #[] 0)):=fun w=>rfl
 obtain⟨w_,hw⟩:=xe w;have HB:=kq (Below w.heap.size w w_) (by rw[hw];exact Below.refl _ _)
 suffices H:Calls Tryz.prog 71 #[.agg tv.toArray] w_ fun e w'=>e=.returned (.bool (!decide ps.Nodup))∧Grow w w' by rw[hw]at H;exact H
 clear hw hi htv hps
 go_enter Tryz.func71,Tryz.ntmps71
 go_wp2_with (with_reducible first|refine wpl_box (o:=⟨some 1,_,_,_,_,_⟩) rfl rfl rfl ?_);intro v_ b_ y_ s_;have HX_:=kp (at_mk b_ HTC.o.len);clear b_ s_;have HG_:=kp HB.o.size;replace HB:=kp (HB.o.grow' y_);generalize x_:w_.heap.size=g1 at HX_ HG_ ⊢;clear x_;have HX_g:=HG_;clear HG_;have HX:=HX_;clear y_ HX_;try clear w_
 rename World=>w_
 go_upto_region 2 with fail
 generalize hw_:World.alloc w_ _=v_;obtain⟨b,hb⟩:=xe w_.heap.size;have HSN:=kq (SeenAt v_ b []) ⟨⟨#[],0,by rw[← hw_,hb];exact heap_alloc_new _ _,MapOK.empty _ _ _,rfl⟩,by simp,by simp⟩;have y_:Grow w_ v_:=by rw[← hw_];exact(Below.refl _ _).alloc (Nat.le_refl _) _
 have HBG:=kq (w.heap.size≤b) (by rw[hb];exact HB.o.size);rw[← hb];replace HX:=kp (HX.o.grow y_);replace HB:=kp (HB.o.grow' y_);clear hw_ hb y_ hmm;try clear w_
 rename World=>w_;have c0:=HX.o.blk.at_ HT0.o;go_wp2_with fail;go_loopw [10] (fun iv wr=>∃k:Nat,k≤n∧iv=.int .i64 k∧Hid (SeenAt wr b (ps.take k)∧Below w.heap.size w wr)) (fun iv _=>n - (intOf iv).toNat)
 case atStart=>exact⟨0,by omega,rfl,kp ⟨HSN.o,HB.o⟩⟩
 case round =>
  obtain⟨k,hk,rfl,hI⟩:=hrel;clear HB HSN HX c0;have HSN:=kp hI.o.1;have HB:=kp hI.o.2;clear hI;rename World=>w_;by_cases hlt:k < n
  ·have HII:=kp (HI.o.grow HB.o);obtain⟨b0,off,p,rfl,hp,hok,hc⟩:=HII.o.at_ hlt;have HC:=kp hc;have HPC:=kp (inV_cl hok);have HOK:=kp hok.2;have HPK:=kq (ptKO p.2.pt) ⟨hok.2.1,hok.2.2.1⟩;have HPV:=kq (ps[k]? = some p.2.pt) (by rw[HPS.o,List.getElem?_map,List.getElem?_map,hp];rfl);have HPT:=kp (fun(w:World) (g:Nat) (h:Blk w g 72 (inV p.1 p.2))=>pt_cells h hok.2);obtain⟨pv,hpv⟩:=xe (inV p.1 p.2);rw[← hpv]at HC HPC HPT;obtain⟨x,hx⟩:=xe p.2.pt;rw[← hx]at HPK HPV HPT;have HXL:=kp (ptKV_len HPK.o);clear hp hok hc hpv hx HII;go_wp2_with (with_reducible first|refine wlm 13 row_tin HC.o HPC.o.len ?_|refine wpl_alloc (o:=⟨some 5,_,_,_,_,_⟩) rfl rfl zero_tin ?_);intro w1_ hb1_ hbw1_ hsz1_;have HB1_:=kp (at_mk hb1_ len_tin);have HBW1_:=kp hbw1_;have HZ1_:=kp hsz1_;clear hb1_ hbw1_ hsz1_;go_wp2_with (with_reducible refine wsb row_tin HB1_.o.blk HB1_.o.len HPC.o.len HPC.o.one ?_);intro v_ b_ g_ s_;have y_:=var_grow HBW1_.o HZ1_.o g_;have HX_:=kp (at_mk b_ HPC.o.len);clear b_ g_ s_ HB1_ HBW1_ HZ1_;replace HB:=kp (HB.o.grow' y_);replace HSN:=kp (HSN.o.grow y_);generalize x_:w_.heap.size=g5 at HX_ ⊢;clear x_;have HE:=HX_;clear y_ HX_;clear w1_;try clear w_
   rename World=>w_;have HPM:=kp (HPT.o _ _ HE.o.blk);have hlk:=HSN.o.look HPK.o;unfold ptKA at hlk;by_cases hm:x∈ps.take k
   ·have HND := kp (show decide ps.Nodup = false by
     rw[decide_eq_false_iff_not];intro hnd;obtain⟨j,hj,he⟩:=List.getElem_of_mem hm;rw[List.getElem_take]at he;rw[List.length_take]at hj;have hk2:=(List.getElem?_eq_some_iff.1 HPV.o).2;have:=(List.getElem_inj hnd (h₀:=by omega) (h₁:=(List.getElem?_eq_some_iff.1 HPV.o).1)).1 (he.trans hk2.symm)
     omega)
    rw[if_pos hm]at hlk;clear hm;go_wp2_with (with_reducible refine wlm 16 row_point HPM.o HXL.o ?_);go_ret
    exact⟨by rw[HND.o];rfl,HB.o⟩
   ·rw[if_neg hm]at hlk;have HNM:=kp hm;clear hm;go_wp2_with (with_reducible refine wlm 16 row_point HPM.o HXL.o ?_);obtain⟨es,clock,h3,h4,h5⟩:=HSN.o.map;obtain⟨lx,hlx⟩:=keyOf_ptK x HPK.o
    have HGB:=kp (show g5≠b from fun e=>by
     have h6:=HE.o.blk;unfold Blk at h6;rw[e,h3]at h6
     cases h6)
    have HM3:=kp h3;have HNO:=kp (HSN.o.none HPK.o HNM.o h3);have HDN:=kp (fun w3 h=>seenC.done (w0:=w_) (b:=b) (w:=w3) h h4 hlx HNO.o h5 HSN.o.ok HPK.o HSN.o.nodup HNM.o);have HLO:=kp (fun k w hk h=>seenC.look (w0:=w_) (b:=b) h4 hlx HNO.o k w hk h);have HR0:=kp (fun w h=>seenC.run0 (w0:=w_) (b:=b) (w:=w) h h4 hlx HNO.o);have HR1:=kp (fun w h=>seenC.run1 (w0:=w_) (b:=b) (w:=w) h h4 hlx HNO.o);unfold ptKA at HLO HR0 HR1;clear h3 h4 h5 hlx hlk;repeat' (first|(with_reducible refine wp_phase (id:=7) (seenC w_ b es clock x) [5,7] [(0,2),(0,2),(0,2),(0,1),(0,2),(0,0),(0,2),(1,1)] (by kernel_rfl) (by kernel_rfl) ?_ ?_)|go_values|go_skip|go_guarded|go_step|go_upon|go_back)
    ·exact⟨grown_of_below (Drawn.all (Drawn.one w_)) _,HM3.o⟩
    refine ph_value rfl (by first|rfl|go_simp) (fun k_ _ _ w_ hC_=>by first|(go_simp;rfl)|(go_simp;done)|rfl) (fun K hK=>?_);go_simp;refine hK _ ?_;clear hK K;refine ph_value rfl (by first|rfl|go_simp) (fun k_ _ _ w_ hC_=>by first|(go_simp;rfl)|(go_simp;done)|rfl) (fun K hK=>?_);go_simp;refine hK _ ?_;clear hK K;refine ph_loadm rfl rfl rfl row_point (fun k _ _ w h=>HPT.o w g5 (Blk.grown HE.o.blk (seenC.low k w h) (fun e=>HGB.o (Option.some.inj e)))) rfl HXL.o ?_
    (intro K hK;go_simp;refine hK _ ?_;clear hK K)
    refine ph_value rfl (by first|rfl|go_simp) (fun k_ h1_ h2_ w_ hC_=>by have c1:=HLO.o k_ w_ (Nat.le_trans h2_ (by decide)) hC_;first|(go_simp;rfl)|(go_simp;done)|rfl) (fun K hK=>?_);go_simp;refine hK _ ?_;clear hK K;refine ph_value rfl (by first|rfl|go_simp) (fun k_ _ _ w_ hC_=>by first|(go_simp;rfl)|(go_simp;done)|rfl) (fun K hK=>?_);go_simp;refine hK _ ?_;clear hK K;refine ph_run 0 rfl rfl rfl (by first|rfl|go_simp) (fun w' hC=>⟨_,by (have hrun:=HR0.o w' hC);first|(go_simp;rfl)|(go_simp;exact⟨rfl,rfl⟩)|go_simp,hC.entry⟩) ?_
    (intro K hK;go_simp;refine hK _ ?_;clear hK K)
    refine ph_value rfl (by first|rfl|go_simp) (fun k_ _ _ w_ hC_=>by first|(go_simp;rfl)|(go_simp;done)|rfl) (fun K hK=>?_);go_simp;refine hK _ ?_;clear hK K;refine ph_runs 1 rfl rfl rfl (by first|rfl|go_simp) (fun w' hC=>⟨_,by (have hrun:=HR1.o w' hC);(have hw1:IntKind.i64.wrap 1=1:=by decide);first|(go_simp;rfl)|(go_simp;exact⟨rfl,rfl⟩)|go_simp,hC.fill⟩) ?_
    (intro K hK;go_simp;refine hK _ ?_;clear hK K)
    refine ph_nil ?_;intro w3 h3;have HS3:=kq (SeenAt w3 b (ps.take (k+1))) (by rw[take_snoc HPV.o];exact HDN.o w3 h3);have HB3:=kp (put_below HB.o HBG.o (seenC.low 2 w3 h3));clear h3;go_wp2_with fail;go_roundw
    case rel=>exact⟨k+1,by omega,by go_num,kp ⟨HS3.o,HB3.o⟩⟩
    case measure=>simp [intOf];omega
  ·obtain rfl:k=n:=by omega
   have HND:=kp (show decide ps.Nodup=true by
    rw[decide_eq_true_iff];have h:=HSN.o.nodup;rw[List.take_of_length_le (by rw[HPS.o,List.length_map,List.length_map];have:=HI.o.2.2.1;omega)] at h
    exact h)
   go_wp2_with fail;go_ret
   exact⟨by rw[HND.o];rfl,HB.o⟩
end Go.Proofs.YtnnjjbkdjkjnpaaGreatDoor

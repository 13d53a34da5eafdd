/- The contract of tx.Check. -/
import Derived.Test.YtnnjjbkdjkjnpaaGreatDoorSpendPlaysRb14
set_option linter.unusedSimpArgs false
set_option linter.unusedVariables false
set_option maxRecDepth 100000
set_option maxHeartbeats 16000000
namespace Go.Proofs.YtnnjjbkdjkjnpaaGreatDoor
open Go.RowKit Go.Shelf
theorem OwnU.sl{w:World}{base n c:Nat}{A:Option Addr}{zs:List Value}(h:OwnU w base A n c zs):Sl w w.heap.size 1 A n zs:=Sl.of_own h
theorem tcheck_any {A : Option Addr} {n c : Nat} {A2 : Option Addr} {n2 c2 : Nat} {fee ex : Int} {l : List (Value × Inp)} {os : List Outp} (w : World) (hi : InsAt w A n c l) (ho : OutsAt w A2 n2 c2 os) (hn : n ≤ 100000) (hn2 : n2 ≤ 100000) (hf : U64 fee) (hex : I64 ex) :
  Calls Tryz.prog 40 #[.agg (txV A n c A2 n2 c2 fee ex).toArray] w fun e w'=>e=.returned (.int .i64 (checkT ⟨l.map Prod.snd,os,fee,ex⟩))∧Grow w w':=by
 have HI:=kp hi;have HO:=kp ho;have HTC:=kp (txV_cl (A:=A) (n:=n) (c:=c) (A2:=A2) (n2:=n2) (c2:=c2) (fee:=fee) (ex:=ex));have HT2:=kq ((txV A n c A2 n2 c2 fee ex)[2]? = some (.int .u64 fee)) rfl;have HAM:=kp (fun w hi ho=>amounts_any (A:=A) (n:=n) (c:=c) (A2:=A2) (n2:=n2) (c2:=c2) (fee:=fee) (ex:=ex) (l:=l) (os:=os) w hi ho (by omega) (by omega));have HLG:=kp (fun w hi=>islong_any (A:=A) (n:=n) (c:=c) (A2:=A2) (n2:=n2) (c2:=c2) (fee:=fee) (ex:=ex) (l:=l) (os:=os) w hi ho.2.2.1 (by omega) (by omega) hex);have HTW:=kp (fun w hi=>istwice_any (A:=A) (n:=n) (c:=c) (A2:=A2) (n2:=n2) (c2:=c2) (fee:=fee) (ex:=ex) (l:=l) (os:=os) w hi (by omega));obtain⟨t,ht⟩:=xe (Txn.mk (l.map Prod.snd) os fee ex);obtain⟨lg,hlg⟩:=xe (longT t);obtain⟨tw,htw⟩:=xe (twiceT t);rw[← ht,← hlg]at HLG;rw[← ht,← htw]at HTW;have e1:t.ins.map Inp.amount=amI l:=by rw[ht];simp [amI]
 have e2:t.outs.map Outp.amount=amO os:=by rw[ht];rfl
 have e3:t.fee=fee:=by rw[ht]
 have HP1:=kq (∀z∈amI l,0≤z) (fun z hz=>by obtain⟨p,hp,rfl⟩:=List.mem_map.1 hz;exact(hi.2.1 p hp).2.2.2.1)
 have HP2:=kp (show ∀z∈amO os++[fee],0≤z from fun z hz=>by
  rcases List.mem_append.1 hz with h|h
  ·obtain⟨p,hp,rfl⟩:=List.mem_map.1 h;exact(ho.2.1 p hp).2.1
  ·rw[List.mem_singleton.1 h];exact hf.1)
 obtain⟨z1,hz1⟩:=xe ((amI l).contains 0);obtain⟨z2,hz2⟩:=xe ((amO os).contains 0);have HC1:=kp (fun(A:Option Addr) (c:Nat) w hs=>contains64_any (A:=A) (n:=n) (c:=c) (zs:=amI l) (x:=0) w hs (by omega));have HC2:=kp (fun(A:Option Addr) (c:Nat) w hs=>contains64_any (A:=A) (n:=n2) (c:=c) (zs:=amO os) (x:=0) w hs (by omega));have HA1:=kp (fun(A:Option Addr) (c:Nat) w hs=>all_any A n c (amI l) w hs (by omega) HP1.o);have HA2:=kp (fun(A:Option Addr) (c:Nat) w hs=>all_any A (n2+1) c (amO os++[fee]) w hs (by omega) HP2.o);rw[← hz1]at HC1;rw[← hz2]at HC2;obtain⟨s1,hs1⟩:=xe ((allE 0 (amI l)).1);obtain⟨r1,hr1⟩:=xe ((allE 0 (amI l)).2);obtain⟨s2,hs2⟩:=xe ((allE 0 (amO os++[fee])).1);obtain⟨r2,hr2⟩:=xe ((allE 0 (amO os++[fee])).2);rw[← hs1,← hr1]at HA1;rw[← hs2,← hr2]at HA2
 have HCK:=kp (show checkT t=if lg=true then 4 else if tw=true then 7 else if(z1 || z2)=true then 8 else if r1≠0 then r1 else if r2≠0 then r2 else if s1≠s2 then 9 else 0 by
  unfold checkT zeroT
  rw[e1,e2,e3,← hlg,← htw,← hz1,← hz2,← hs1,← hr1,← hs2,← hr2])
 rw[← ht];obtain⟨ck,hck⟩:=xe (checkT t);rw[← hck]at HCK ⊢;have HZ:=kq (((amO os++[fee]).map (Value.int .u64))=(amO os).map (Value.int .u64)++[.int .u64 fee]) (by simp);obtain⟨tv,htv⟩:=xe (txV A n c A2 n2 c2 fee ex);rw[← htv]at HTC HT2 HAM HLG HTW ⊢;obtain⟨xs1,hx1⟩:=xe ((amI l).map (Value.int .u64));obtain⟨xs2,hx2⟩:=xe ((amO os).map (Value.int .u64));rw[← hx1,← hx2]at HAM;rw[← hx1]at HC1 HA1;rw[← hx2]at HC2 HZ;obtain⟨xs3,hx3⟩:=xe ((amO os++[fee]).map (Value.int .u64));rw[← hx3]at HA2 HZ;obtain⟨w_,hw⟩:=xe w;have HB:=kq (Below w.heap.size w w_) (by rw[hw];exact Below.refl _ _)
 suffices H:Calls Tryz.prog 40 #[.agg tv.toArray] w_ fun e w'=>e=.returned (.int .i64 ck)∧Grow w w' by rw[hw]at H;exact H
 clear hw hi ho ht hlg htw e1 e2 e3 hz1 hz2 hs1 hr1 hs2 hr2 hck htv hx1 hx2 hx3 hf hex
 go_enter Tryz.func40,Tryz.ntmps40
 go_wp2_with (with_reducible first|refine wpl_box (o:=⟨some 1,_,_,_,_,_⟩) rfl rfl rfl ?_);intro v_ b_ y_ s_;have HX_:=kp (at_mk b_ HTC.o.len);clear b_ s_;have HG_:=kp HB.o.size;replace HB:=kp (HB.o.grow' y_);generalize x_:w_.heap.size=g1 at HX_ HG_ ⊢;clear x_;have HX_g:=HG_;clear HG_;have HX:=HX_;clear y_ HX_;try clear w_
 rename World=>w_;go_wp2_with (with_reducible refine wlb 9 row_tx HX.o.blk HX.o.len ?_);refine(HAM.o _ (HI.o.grow HB.o) (HO.o.grow HB.o)).mono ?_;rintro e v_ ⟨A3,c3,A4,c4,rfl,hu1,hu2,y_⟩;have HU1:=kp hu1;have HU2:=kq (OwnU v_ w_.heap.size A4 n2 c4 xs2) hu2;have HGB:=kq (w.heap.size≤w_.heap.size∧g1 < w_.heap.size) ⟨HB.o.size,HX.o.lt⟩;obtain⟨b4,hb4⟩:=xe w_.heap.size;have HSB:=kq (SzG v_ w_.heap.size) y_.size;rw[← hb4]at HU1 HU2 HGB HSB;have HX1:=kp (HX.o.grow y_);clear hu1 hu2 hb4;clear HX;have HX:=HX1;clear HX1;replace HB:=kp (HB.o.grow' y_);clear y_;try clear w_
 rename World=>w_;go_wp2_with (with_reducible refine wlb 14 row_tx HX.o.blk HX.o.len ?_);refine(HLG.o _ (HI.o.grow HB.o)).mono ?_;rintro e w_ ⟨rfl,y_⟩;replace HB:=kp (HB.o.grow' y_);replace HX:=kp (HX.o.grow y_);replace HU1:=kp (HU1.o.grow y_);replace HU2:=kp (HU2.o.grow y_);replace HSB:=kp (HSB.o.grow y_);clear y_;cases lg with
 | true =>
  go_wp2_with fail;go_ret
  exact⟨by rw[HCK.o];rfl,HB.o⟩
 | false =>
  go_wp2_with (with_reducible refine wlb 17 row_tx HX.o.blk HX.o.len ?_);refine(HTW.o _ (HI.o.grow HB.o)).mono ?_;rintro e w_ ⟨rfl,y_⟩;replace HB:=kp (HB.o.grow' y_);replace HX:=kp (HX.o.grow y_);replace HU1:=kp (HU1.o.grow y_);replace HU2:=kp (HU2.o.grow y_);replace HSB:=kp (HSB.o.grow y_);clear y_;cases tw with
  | true =>
   go_wp2_with fail;go_ret
   exact⟨by rw[HCK.o];rfl,HB.o⟩
  | false =>
   go_wp2_with fail;refine(HC1.o _ _ _ HU1.o.sl).mono ?_;rintro e v_ ⟨rfl,rfl⟩;cases z1 with
   | true =>
    go_wp2_with fail;go_ret
    exact⟨by rw[HCK.o];rfl,HB.o⟩
   | false =>
    go_wp2_with fail;refine(HC2.o _ _ _ HU2.o.sl).mono ?_;rintro e v_ ⟨rfl,rfl⟩;cases z2 with
    | true =>
     go_wp2_with fail;go_ret
     exact⟨by rw[HCK.o];rfl,HB.o⟩
    | false =>
     go_wp2_with fail;refine(HA1.o _ _ _ HU1.o.sl).mono ?_;clear HU1;rintro e w_ ⟨rfl,y_⟩;replace HB:=kp (HB.o.grow' y_);replace HX:=kp (HX.o.grow y_);replace HU2:=kp (HU2.o.grow y_);replace HSB:=kp (HSB.o.grow y_);clear y_;by_cases h1:r1=0
     ·have HC3:=kq (ck=if r2≠0 then r2 else if s1≠s2 then 9 else 0) (by rw[HCK.o];simp [h1]);subst h1;have c2:=HX.o.blk.at_ HT2.o;have HSZ:=kq (b4≤w_.heap.size) HSB.o;have HR3:=kq (w_.ownsRow b4 25 1 (.slice A4 n2 c4) n2 xs2) HU2.o;go_wp2_with (first|(at_builtin;refine wpl_app1 rfl rfl el_us HR3.o rfl (m:=1) rfl ?_ ?_ ?_ ?_ ?_ ?_))
      ·rfl
      ·rfl
      ·omega
      ·omega
      ·exact HSZ.o
      intro A5 c5 w4_ ho_ x_ hA_;have hne_:=own_from HR3.o;have HB_:=kp (below_grown HB.o x_ HB.o.size (fun x hx=>by have:=hne_ _ hx;have:=HGB.o;omega));have HS5:=kq (Sl w4_ w4_.heap.size 1 A5 (n2+1) xs3) (by rw[HZ.o];exact Sl.of_own ho_);clear ho_ x_ hA_ hne_ HB HR3 HU2 HX c2;go_wp2_with fail;refine(HA2.o _ _ _ HS5.o).mono ?_;rintro e w5_ ⟨rfl,y_⟩;have HB:=kp (HB_.o.grow' y_);clear y_ HB_ HS5;by_cases h2:r2=0
      ·have HC4:=kq (ck=if s1≠s2 then 9 else 0) (by rw[HC3.o];simp [h2]);subst h2;by_cases h3:s1=s2
       ·have d3:(s1 != s2)=false:=by simpa using h3
        have HC5:=kq (ck=0) (by rw[HC4.o];simp [h3]);clear h3;go_wp2_with fail;go_ret
        exact⟨by rw[HC5.o];rfl,HB.o⟩
       ·have d3:(s1 != s2)=true:=by simpa using h3
        have HC5:=kq (ck=9) (by rw[HC4.o];simp [h3]);clear h3;go_wp2_with fail;go_ret
        exact⟨by rw[HC5.o];rfl,HB.o⟩
      ·have d2:(r2 != 0)=true:=by simpa using h2
       have HC4:=kq (ck=r2) (by rw[HC3.o];simp [h2]);clear h2;go_wp2_with fail;go_ret
       exact⟨by rw[HC4.o];rfl,HB.o⟩
     ·have d1:(r1 != 0)=true:=by simpa using h1
      have HC3:=kq (ck=r1) (by rw[HCK.o];simp [h1]);clear h1;go_wp2_with fail;go_ret
      exact⟨by rw[HC3.o];rfl,HB.o⟩
section
variable {P:Program} {ops:Array Oper} {am cl:List Nat} {sp:Nat→Sp} {w0:World} {Q:Exit→Act→World→Prop} {us:List Nat} {L:List (Nat×(World→Prop))} {o:Oper} {i:Nat} {a:Act}
end
end Go.Proofs.YtnnjjbkdjkjnpaaGreatDoor
namespace Go.Proofs.YtnnjjbkdjkjnpaaGreatDoor
open Go.RowKit Go.Shelf
theorem cont_snoc{α:Type}(f:α→Int){l:List α}{k:Nat}{p:α}(h:l[k]? = some p):((l.take (k+1)).map f).contains 0=(((l.take k).map f).contains 0 ||(f p == 0)):=by
 rw[take_snoc h,List.map_append];generalize (l.take k).map f=L;rw[Bool.eq_iff_iff];simp only [List.map_cons,List.map_nil,List.contains_iff_mem,List.mem_append,List.mem_singleton,Bool.or_eq_true,beq_iff_eq];exact⟨fun h=>h.imp id Eq.symm,fun h=>h.imp id Eq.symm⟩
theorem nodup_snoc{α:Type}{l:List α}{k:Nat}{p:α}(h:l[k]? = some p)(hn:(l.take k).Nodup)(hp:p∉l.take k):(l.take (k+1)).Nodup:=by
 rw[take_snoc h,List.nodup_append];exact⟨hn,by simp,fun a ha c hc e=>by rw[List.mem_singleton.1 hc]at e;subst e;exact hp ha⟩
theorem mem_snoc{α:Type}{l:List α}{k:Nat}{p x:α}(h:l[k]? = some p)(hp:x∉l.take k)(hx:p≠x):x∉l.take (k+1):=by
 rw[take_snoc h,List.mem_append,List.mem_singleton];exact fun h=>h.elim hp (fun e=>hx e.symm)
theorem not_nodup{α:Type}[DecidableEq α]{l:List α}{j k:Nat}{p:α}(hj:l[j]? = some p)(hk:l[k]? = some p)(h:j < k):decide l.Nodup=false:=by
 rw[decide_eq_false_iff_not];intro hn;obtain⟨h1,e1⟩:=List.getElem?_eq_some_iff.1 hj;obtain⟨h2,e2⟩:=List.getElem?_eq_some_iff.1 hk;have:=(List.getElem_inj hn (h₀:=h1) (h₁:=h2)).1 (e1.trans e2.symm);omega
theorem InsAt.pt_ {w : World} {b off n c : Nat} {l : List (Value × Inp)} (h : InsAt w (some ⟨b, off, none⟩) n c l) {k : Nat} (hk : k < n) :
  ∃p,l[k]? = some p∧ptKO p.2.pt∧(∀j u,(ptKV p.2.pt)[j]? = some u→w.cell? ⟨b,off+k*35+j,none⟩=some u)∧w.cell? ⟨b,off+k*35+33,none⟩=some (.int .u64 p.2.amount):=by
 obtain⟨b',off',p,e,hp,hok,hc⟩:=h.at_ hk;injection e with e
 injection e with e1 e2
 subst e1;subst e2;refine⟨p,hp,⟨hok.2.1,hok.2.2.1⟩,fun j u hu=>hc j u ?_,hc 33 _ (in_at (v:=p.1) hok.2).2.1⟩;have e:inV p.1 p.2=ptKV p.2.pt++[.int .u64 p.2.amount,p.1]:=by simp [inV,ptKV,Inp.pt]
 rw[e,List.getElem?_append_left (List.getElem?_eq_some_iff.1 hu).1];exact hu
theorem pt_eq{x y:List UInt8×Int}(hx:ptKO x)(hy:ptKO y):∃r:Bool,(r=true↔x=y)∧∀w,(Op.equalIn 10000 69 (.agg (ptKV x).toArray) (.agg (ptKV y).toArray)).run Tryz.prog w=.ok r w:=by
 obtain⟨n4,hn4⟩:=types_3;obtain⟨r,hr,hq⟩:=eql_deep key_pt (m:=3) (by omega) (by kernel_rfl) (by kernel_rfl) (by kernel_rfl) (ptKV x) (ptKV y) (by rw[ptKV_len hx,cells_point]) (by rw[ptKV_len hy,cells_point]) (by rw[hn4];exact lits_pt (n4+1) _ hx) (by rw[hn4];exact lits_pt (n4+1) _ hy);exact⟨r,hr.trans ⟨fun h=>ptKA_inj hx.1 hy.1 (by unfold ptKA;rw[h]),fun h=>by rw[h]⟩,hq⟩
theorem rtcheck_any {A : Option Addr} {n c : Nat} {A2 : Option Addr} {n2 c2 : Nat} {fee ex : Int} {l : List (Value × Inp)} {os : List Outp} (w : World) (hi : InsAt w A n c l) (ho : OutsAt w A2 n2 c2 os) (hn : n ≤ 100000) (hn2 : n2 ≤ 100000) (hf : U64 fee) (hex : I64 ex) :
  Calls Tryz.prog 19 #[.agg (txV A n c A2 n2 c2 fee ex).toArray] w fun e w'=>e=.returned (.int .i64 (checkT ⟨l.map Prod.snd,os,fee,ex⟩))∧Grow w w':=by
 have HI:=kp hi;have HO:=kp ho;have HTC:=kp (txV_cl (A:=A) (n:=n) (c:=c) (A2:=A2) (n2:=n2) (c2:=c2) (fee:=fee) (ex:=ex));have HT2:=kq ((txV A n c A2 n2 c2 fee ex)[2]? = some (.int .u64 fee)) rfl;obtain⟨t,ht⟩:=xe (Txn.mk (l.map Prod.snd) os fee ex);obtain⟨lg,hlg⟩:=xe (longT t);obtain⟨tw,htw⟩:=xe (twiceT t);have HT0:=kq ((txV A n c A2 n2 c2 fee ex)[0]? = some (.slice A n c)) rfl;have HT1:=kq ((txV A n c A2 n2 c2 fee ex)[1]? = some (.slice A2 n2 c2)) rfl;have HT3:=kq ((txV A n c A2 n2 c2 fee ex)[3]? = some (.int .i64 ex)) rfl;have e1:t.ins.map Inp.amount=amI l:=by rw[ht];simp [amI]
 have e2:t.outs.map Outp.amount=amO os:=by rw[ht];rfl
 have e3:t.fee=fee:=by rw[ht]
 have HP1:=kq (∀z∈amI l,0≤z) (fun z hz=>by obtain⟨p,hp,rfl⟩:=List.mem_map.1 hz;exact(hi.2.1 p hp).2.2.2.1)
 have HP2:=kp (show ∀z∈amO os++[fee],0≤z from fun z hz=>by
  rcases List.mem_append.1 hz with h|h
  ·obtain⟨p,hp,rfl⟩:=List.mem_map.1 h;exact(ho.2.1 p hp).2.1
  ·rw[List.mem_singleton.1 h];exact hf.1)
 obtain⟨z1,hz1⟩:=xe ((amI l).contains 0);obtain⟨z2,hz2⟩:=xe ((amO os).contains 0);have HA1:=kp (fun(A:Option Addr) (c:Nat) w hs=>rall_any A n c (amI l) w hs (by omega) HP1.o);have HA2:=kp (fun(A:Option Addr) (c:Nat) w hs=>rall_any A (n2+1) c (amO os++[fee]) w hs (by omega) HP2.o);obtain⟨s1,hs1⟩:=xe ((allE 0 (amI l)).1);obtain⟨r1,hr1⟩:=xe ((allE 0 (amI l)).2);obtain⟨s2,hs2⟩:=xe ((allE 0 (amO os++[fee])).1);obtain⟨r2,hr2⟩:=xe ((allE 0 (amO os++[fee])).2);rw[← hs1,← hr1]at HA1;rw[← hs2,← hr2]at HA2
 have HCK:=kp (show checkT t=if lg=true then 4 else if tw=true then 7 else if(z1 || z2)=true then 8 else if r1≠0 then r1 else if r2≠0 then r2 else if s1≠s2 then 9 else 0 by
  unfold checkT zeroT
  rw[e1,e2,e3,← hlg,← htw,← hz1,← hz2,← hs1,← hr1,← hs2,← hr2])
 rw[← ht];obtain⟨ck,hck⟩:=xe (checkT t);rw[← hck]at HCK ⊢;have HZ:=kq (((amO os++[fee]).map (Value.int .u64))=(amO os).map (Value.int .u64)++[.int .u64 fee]) (by simp);have HLE:=kq (lg=(!(inB n 1 16 && inB n2 1 16 && inB ex 0 1099511627776) ||(l.map Prod.snd).any longI)) (by rw[hlg,ht];unfold longT shortT;simp only [List.length_map];rw[hi.2.2.1,ho.2.2.1]);have HTE:=kq (tw=!decide (((l.map Prod.snd).map Inp.pt)).Nodup) (by rw[htw,ht];rfl);have HZ1:=kp hz1;have HZ2:=kp hz2;obtain⟨tv,htv⟩:=xe (txV A n c A2 n2 c2 fee ex);rw[← htv]at HTC HT0 HT1 HT2 HT3 ⊢;have HEXR:=kp hex;obtain⟨xs1,hx1⟩:=xe ((amI l).map (Value.int .u64));obtain⟨xs2,hx2⟩:=xe ((amO os).map (Value.int .u64));rw[← hx1]at HA1;rw[← hx2]at HZ;obtain⟨xs3,hx3⟩:=xe ((amO os++[fee]).map (Value.int .u64));rw[← hx3]at HA2 HZ;obtain⟨w_,hw⟩:=xe w;have HB:=kq (Below w.heap.size w w_) (by rw[hw];exact Below.refl _ _)
 suffices H:Calls Tryz.prog 19 #[.agg tv.toArray] w_ fun e w'=>e=.returned (.int .i64 ck)∧Grow w w' by rw[hw]at H;exact H
 have HX1:=kp hx1;have HX2:=kp hx2;clear hw hi ho ht hlg htw e1 e2 e3 hz1 hz2 hs1 hr1 hs2 hr2 hck htv hx1 hx2 hx3 hf hex
 go_enter Tryz.func19,Tryz.ntmps19
 go_wp2_with (with_reducible first|refine wpl_box (o:=⟨some 1,_,_,_,_,_⟩) rfl rfl rfl ?_);intro v_ b_ y_ s_;have HX_:=kp (at_mk b_ HTC.o.len);clear b_ s_;have HG_:=kp HB.o.size;replace HB:=kp (HB.o.grow' y_);generalize x_:w_.heap.size=g1 at HX_ HG_ ⊢;clear x_;have HX_g:=HG_;clear HG_;have HX:=HX_;clear y_ HX_;try clear w_
 rename World=>w_;have c0:=HX.o.blk.at_ HT0.o;have c1:=HX.o.blk.at_ HT1.o;have c3:=HX.o.blk.at_ HT3.o;obtain⟨q1,hq1⟩:∃q,decide ((n:Int) < 1)=q:=⟨_,rfl⟩;obtain⟨q2,hq2⟩:∃q,decide ((16:Int) < (n:Int))=q:=⟨_,rfl⟩;obtain⟨q3,hq3⟩:∃q,decide ((n2:Int) < 1)=q:=⟨_,rfl⟩;obtain⟨q4,hq4⟩:∃q,decide ((16:Int) < (n2:Int))=q:=⟨_,rfl⟩;obtain⟨q5,hq5⟩:∃q,decide (ex < 0)=q:=⟨_,rfl⟩;obtain⟨q6,hq6⟩:∃q,decide ((1099511627776:Int) < ex)=q:=⟨_,rfl⟩;obtain⟨sh,hsh⟩:=xe (q1 || q2 || q3 || q4 || q5 || q6);have HSH:=kp hsh
 have HSE:=kp (show sh=!(inB n 1 16 && inB n2 1 16 && inB ex 0 1099511627776) by
  rw[hsh,← hq1,← hq2,← hq3,← hq4,← hq5,← hq6,Bool.eq_iff_iff];unfold inB;simp
  omega)
 clear hsh
 go_upto_region 1 with fail
 go_cut [45] from 14 (fun s45 wr=>s45=.bool sh∧wr=w_)
 case first =>
  cases q1 with
  | true =>
   go_wp2_with fail
   go_meet
   case rel=>exact⟨by rw[HSH.o];first|rfl|simp,rfl⟩
  | false =>
   cases q2 with
   | true =>
    go_wp2_with fail
    go_meet
    case rel=>exact⟨by rw[HSH.o];first|rfl|simp,rfl⟩
   | false =>
    cases q3 with
    | true =>
     go_wp2_with fail
     go_meet
     case rel=>exact⟨by rw[HSH.o];first|rfl|simp,rfl⟩
    | false =>
     cases q4 with
     | true =>
      go_wp2_with fail
      go_meet
      case rel=>exact⟨by rw[HSH.o];first|rfl|simp,rfl⟩
     | false =>
      cases q5 with
      | true =>
       go_wp2_with fail
       go_meet
       case rel=>exact⟨by rw[HSH.o];first|rfl|simp,rfl⟩
      | false =>
       cases q6 with
       | true =>
        go_wp2_with fail
        go_meet
        case rel=>exact⟨by rw[HSH.o];first|rfl|simp,rfl⟩
       | false =>
        go_wp2_with fail
        go_meet
        case rel=>exact⟨by rw[HSH.o];first|rfl|simp,rfl⟩
 case rest =>
  obtain⟨rfl,rfl⟩:=hcut;clear hq1 hq2 hq3 hq4 hq5 hq6 c1 c3 HSH;try clear q1 q2 q3 q4 q5 q6
  rename World=>w_;cases sh with
  | true =>
   have HL1:=kq (ck=4) (by rw[HCK.o,HLE.o,← HSE.o];simp);go_wp2_with fail;go_ret
   exact⟨by rw[HL1.o];rfl,HB.o⟩
  | false =>
   have HN16:=kp (show n≤16∧n2≤16 by
    have h:=HSE.o.symm;simp only [Bool.not_eq_false',Bool.and_eq_true,inB_iff]at h
    omega)
   have HLE2:=kq (lg=(l.map Prod.snd).any longI) (by rw[HLE.o,← HSE.o];simp);obtain⟨ins,hins⟩:=xe (l.map Prod.snd);have HINS:=kp hins;rw[← hins]at HLE2 HTE;have HINL:=kq (ins.length=n) (by rw[hins,List.length_map];exact HI.o.2.2.1);clear hins HSE HLE
   go_upto_block 0 with fail
   go_cut [] from 14 (fun wr=>Hid (lg=false)∧wr=w_)
   case first =>
    go_wp2_with fail;go_loopw [3] (fun iv wr=>∃k:Nat,k≤n∧iv=.int .i64 k∧Hid ((ins.take k).any longI=false)∧wr=w_) (fun iv _=>n - (intOf iv).toNat)
    case atStart=>exact⟨0,by omega,rfl,kp (by simp),rfl⟩
    case round =>
     obtain⟨k,hk,rfl,hany,rfl⟩:=hrel;by_cases hlt:k < n
     ·obtain⟨b,off,p,rfl,hp,hok,hc⟩:=HI.o.at_ hlt;have HAT:=kp (in_at (v:=p.1) hok.2);obtain⟨⟨A4,c4,e4,_,_⟩,hio⟩:=hok;have c34:=bcell HB.o (hc 34 _ HAT.o.2.2);have c32:=bcell HB.o (hc 32 _ HAT.o.1);rw[e4]at c34;have HSN:=kp (any_take longI (l:=ins) (k:=k) (p:=p.2) (by rw[HINS.o,List.getElem?_map,hp];rfl));have HME:=kq (p.2∈ins) (by rw[HINS.o];exact List.mem_map_of_mem (List.mem_of_getElem? hp));obtain⟨sl,hsl⟩:=xe p.2.secret.length;obtain⟨ix,hix⟩:=xe p.2.index;rw[← hsl]at c34;rw[← hix]at c32;obtain⟨q1,hq1⟩:∃q,decide ((64:Int) < (sl:Int))=q:=⟨_,rfl⟩;obtain⟨q2,hq2⟩:∃q,decide (ix < 0)=q:=⟨_,rfl⟩;obtain⟨q3,hq3⟩:∃q,decide ((15:Int) < ix)=q:=⟨_,rfl⟩
      have HLI:=kp (show longI p.2=(q1 || q2 || q3) by
       unfold longI inB;rw[← hq1,← hq2,← hq3,← hsl,← hix,Bool.eq_iff_iff];simp
       omega)
      have v1:IntKind.i64.wrap ((k:Int)+1)=(k:Int)+1:=IntWalk.i64_in _ (by omega);have v2:RowKit.wrap64 ((k:Int)+1)=(k:Int)+1:=wrap64_in _ (by clear v1;omega);clear hp hc hio e4 hsl hix;cases q1 with
      | true =>
       have HL1:=kq (ck=4) (by rw[HCK.o,HLE2.o,if_pos (List.any_eq_true.2 ⟨_,HME.o,by rw[HLI.o];simp⟩)]);go_wp2_with fail;go_ret
       exact⟨by rw[HL1.o];rfl,HB.o⟩
      | false =>
       cases q2 with
       | true =>
        have HL1:=kq (ck=4) (by rw[HCK.o,HLE2.o,if_pos (List.any_eq_true.2 ⟨_,HME.o,by rw[HLI.o];simp⟩)]);go_wp2_with fail;go_ret
        exact⟨by rw[HL1.o];rfl,HB.o⟩
       | false =>
        cases q3 with
        | true =>
         have HL1:=kq (ck=4) (by rw[HCK.o,HLE2.o,if_pos (List.any_eq_true.2 ⟨_,HME.o,by rw[HLI.o];simp⟩)]);go_wp2_with fail;go_ret
         exact⟨by rw[HL1.o];rfl,HB.o⟩
        | false =>
         have HNX:=kq ((ins.take (k+1)).any longI=false) (by rw[HSN.o,hany.o,HLI.o];rfl);go_wp2_with fail;go_roundw
         all_goals clear v1 v2
         case rel=>exact⟨k+1,by omega,by go_num,HNX,by first|trivial|rfl⟩
         case measure=>simp [intOf];omega
     ·obtain rfl:k=n:=by omega
      have HLF:=kq (lg=false) (by rw[HLE2.o];have h:=hany.o;rw[List.take_of_length_le (by rw[HINL.o];exact Nat.le_refl _)] at h;exact h);go_wp2_with fail
      go_meet
      case rel=>exact⟨HLF,rfl⟩
   case rest =>
    obtain⟨hlf,rfl⟩:=hcut;rename World=>w_;rename_i u2_ u3_;obtain⟨pts,hpts⟩:=xe (ins.map Inp.pt);have HPTS:=kp hpts;rw[← hpts]at HTE;have HLK:=kp (fun(k:Nat) (p:Value×Inp) (hp:l[k]? = some p)=>show pts[k]? = some p.2.pt by rw[hpts,HINS.o,List.getElem?_map,List.getElem?_map,hp];rfl);clear hpts
    go_upto_block 2 with fail
    go_cut [4,6] from 14 (fun s4 s6 wr=>∃A3 c3,s4=.slice A3 n c3∧s6=.bool z1∧Hid (OwnU wr (g1+1) A3 n c3 xs1∧At wr g1 27 4 tv∧Below w.heap.size w wr∧tw=false))
    case first =>
     go_wp2_with fail;go_loopw [4,6,7] (fun s4 s6 iv wr=>∃k:Nat,∃A3 c3,k≤n∧iv=.int .i64 k∧s4=.slice A3 k c3∧s6=.bool (((l.take k).map fun p=>p.2.amount).contains 0)∧Hid (OwnU wr (g1+1) A3 k c3 (((l.take k).map fun p=>p.2.amount).map (Value.int .u64))∧At wr g1 27 4 tv∧Below w.heap.size w wr∧(pts.take k).Nodup)) (fun _ _ iv _=>n - (intOf iv).toNat)
     case atStart=>exact⟨0,none,0,by omega,rfl,rfl,rfl,kp ⟨World.ownsRow_nil _ _ _ _,HX.o,HB.o,by simp⟩⟩
     case round =>
      obtain⟨k,A3,c3,hk,rfl,rfl,rfl,hI⟩:=hrel;clear HX HB c0;have HR:=kp hI.o.1;have HX:=kp hI.o.2.1;have HB:=kp hI.o.2.2.1;have HND:=kp hI.o.2.2.2;clear hI;rename World=>w_;have c0:=HX.o.blk.at_ HT0.o;by_cases hlt:k < n
      ·obtain⟨b,off,_,rfl,_,_,_⟩:=HI.o.at_ hlt;obtain⟨p,hp,hok,hc,ha⟩:=HI.o.pt_ hlt;have HC:=kp hc;have HA:=kp ha;have HOK:=kp hok;have HPK:=kp (HLK.o k p hp);have HSN:=kp (am_snoc (fun q:Value×Inp=>q.2.amount) hp);have HCS:=kp (cont_snoc (fun q:Value×Inp=>q.2.amount) hp);obtain⟨am,ham⟩:=xe p.2.amount;obtain⟨pk,hpk⟩:=xe p.2.pt;obtain⟨zk,hzk⟩:=xe (((l.take k).map fun q=>q.2.amount).contains 0);obtain⟨xs,hxs⟩:=xe (((l.take k).map fun q=>q.2.amount).map (Value.int .u64));rw[← ham]at HA HSN HCS;rw[← hpk]at HC HOK HPK;rw[← hxs]at HR HSN;rw[← hzk]at HCS ⊢;clear hc ha hok hp ham hpk hzk hxs
       go_upto_block 4 with fail
       go_cut [] from 81 to 100 (fun wr=>Hid (pk∉pts.take k)∧Hid (OwnU wr (g1+1) A3 k c3 xs∧At wr g1 27 4 tv∧Below w.heap.size w wr))
       case first =>
        go_wp2_with fail;go_loopw [8] (fun jv wr=>∃j:Nat,j≤k∧jv=.int .i64 j∧Hid (pk∉pts.take j)∧Hid (OwnU wr (g1+1) A3 k c3 xs∧At wr g1 27 4 tv∧Below w.heap.size w wr)) (fun jv _=>k - (intOf jv).toNat)
        case atStart=>exact⟨0,by omega,rfl,kp (by simp),kp ⟨HR.o,HX.o,HB.o⟩⟩
        case round =>
         obtain⟨j,hj,rfl,hnm,hI⟩:=hrel;clear HR HX HB c0;have HR:=kp hI.o.1;have HX:=kp hI.o.2.1;have HB:=kp hI.o.2.2;clear hI;rename World=>w_;have c0:=HX.o.blk.at_ HT0.o;by_cases hjt:j < k
         ·have hjn:j < n:=by omega
          obtain⟨p2,hp2,hok2,hc2,_⟩:=HI.o.pt_ hjn;have HPJ:=kp (HLK.o j p2 hp2);obtain⟨pj,hpj⟩:=xe p2.2.pt;rw[← hpj]at hok2 hc2 HPJ;have HC2:=kp hc2;have HOK2:=kp hok2;clear hpj hc2 hok2 hp2;obtain⟨r,hr,hq⟩:=pt_eq HOK2.o HOK.o;have HRR:=kp hr;clear hr;have v1:IntKind.i64.wrap ((j:Int)+1)=(j:Int)+1:=IntWalk.i64_in _ (by omega);have v2:RowKit.wrap64 ((j:Int)+1)=(j:Int)+1:=wrap64_in _ (by clear v1;omega);try go_wp2_with fail
          repeat' (first|(with_reducible refine wp_flow (id:=16) [0,1,0,7,15,31,0,64,0,448,960,1984,4095] [0,0,0,0,0,0,0,0,0,0,0,0,0] (fun i=>match i with |_=>spV undef) (by kernel_rfl) (by kernel_rfl) ?_)|go_values|go_skip|go_guarded|go_step|go_upon|go_back)
          intro w_ hd_;have y_:=hd_.grow;replace HB:=kp (HB.o.grow' y_);replace HX:=kp (HX.o.grow y_);replace HR:=kp (HR.o.grow y_);clear y_ hd_;show wpL _ _ _ _ _ _ _ [0,1,2,3,4,5,6,7,8,9,10,11,12] _ _
          replace c0:=HX.o.blk.at_ HT0.o;have HM1:=kq (∀j' u,(ptKV pj)[j']? = some u→w_.cell? ⟨b,off+j*35+j',none⟩=some u) (fun j' u hu=>bcell HB.o (HC2.o j' u hu));have HM2:=kq (∀j' u,(ptKV pk)[j']? = some u→w_.cell? ⟨b,off+k*35+j',none⟩=some u) (fun j' u hu=>bcell HB.o (HC.o j' u hu));have HL1:=kp (ptKV_len HOK2.o);have HL2:=kp (ptKV_len HOK.o);repeat (first|(refine fl_load rfl (by decide) (by first|exact wanted_none rfl|(go_simp;done)|fail) rfl (by first|rfl|(go_simp;rfl)) (by kernel_rfl) (by first|exact c0) (fun K hK=>?_);go_simp;refine hK _ ?_;clear hK K)|(refine fl_skip rfl (by first|(go_simp;done)|fail) (fun K hK=>?_);go_simp;refine hK _ ?_;clear hK K)|(refine flc (fun K hK=>?_);go_simp;refine hK _ ?_;clear hK K))
          refine fl_loadm rfl (by decide) (by first|exact wanted_none rfl|(go_simp;done)|fail) rfl row_point HM1.o (by first|rfl|(go_simp;done)|rfl) HL1.o (fun K hK=>?_);go_simp;refine hK _ ?_;clear hK K;repeat (first|(refine fl_load rfl (by decide) (by first|exact wanted_none rfl|(go_simp;done)|fail) rfl (by first|rfl|(go_simp;rfl)) (by kernel_rfl) (by first|exact c0) (fun K hK=>?_);go_simp;refine hK _ ?_;clear hK K)|(refine fl_skip rfl (by first|(go_simp;done)|fail) (fun K hK=>?_);go_simp;refine hK _ ?_;clear hK K)|(refine flc (fun K hK=>?_);go_simp;refine hK _ ?_;clear hK K))
          refine fl_loadm rfl (by decide) (by first|exact wanted_none rfl|(go_simp;done)|fail) rfl row_point HM2.o (by first|rfl|(go_simp;done)|rfl) HL2.o (fun K hK=>?_);go_simp;refine hK _ ?_;clear hK K;repeat (first|(refine fl_load rfl (by decide) (by first|exact wanted_none rfl|(go_simp;done)|fail) rfl (by first|rfl|(go_simp;rfl)) (by kernel_rfl) (by first|exact c0) (fun K hK=>?_);go_simp;refine hK _ ?_;clear hK K)|(refine fl_skip rfl (by first|(go_simp;done)|fail) (fun K hK=>?_);go_simp;refine hK _ ?_;clear hK K)|(refine flc (fun K hK=>?_);go_simp;refine hK _ ?_;clear hK K))
          refine fl_done ?_;intro v_ x_ hL_;replace HB:=kp (HB.o.grow' x_);replace HX:=kp (HX.o.grow x_);replace HR:=kp (HR.o.grow x_);clear x_ hL_;try clear w_
          rename World=>w_;clear HM1 HM2 hq c0;cases r with
          | true =>
           have HCE:=kp (show ck=7 by
            have h1:pts[j]? = some pk:=by rw[← HRR.o.1 rfl];exact HPJ.o
            have h2:tw=true:=by rw[HTE.o,not_nodup h1 HPK.o hjt];rfl
            rw[HCK.o,hlf.o,h2];rfl)
           clear v1 v2;go_wp2_with fail;go_ret
           exact⟨by rw[HCE.o];rfl,HB.o⟩
          | false =>
           have HNN:=kp (mem_snoc HPJ.o hnm.o (fun e=>by have:=HRR.o.2 e;cases this));go_wp2_with fail;go_roundw
           all_goals clear v1 v2
           case rel=>exact⟨j+1,by omega,by go_num,HNN,kp ⟨HR.o,HX.o,HB.o⟩⟩
           case measure=>simp [intOf];omega
         ·obtain rfl:j=k:=by omega
          go_wp2_with fail
          go_meet
          case rel=>exact⟨hnm,kp ⟨HR.o,HX.o,HB.o⟩⟩
       case rest =>
        obtain⟨hnm,hI⟩:=hcut;clear HR HX HB c0;have HR:=kp hI.o.1;have HX:=kp hI.o.2.1;have HB:=kp hI.o.2.2;clear hI;try clear w_
        rename World=>w_;have HNK:=kp (nodup_snoc HPK.o HND.o hnm.o);have c0:=HX.o.blk.at_ HT0.o;have c33:=bcell HB.o HA.o;have HGZ:=kq (g1+1≤w_.heap.size) (by have:=HX.o.lt;omega);have HR3:=kq (w_.ownsRow (g1+1) 25 1 (.slice A3 k c3) k xs) HR.o;go_wp2_with (first|(at_builtin;refine wpl_app1 rfl rfl el_us HR3.o rfl (m:=1) rfl ?_ ?_ ?_ ?_ ?_ ?_))
        ·rfl
        ·rfl
        ·omega
        ·have:=HN16.o;omega
        ·exact HGZ.o
        intro A4 c4 w4_ ho_ x_ hA_;have hne_:=own_from HR3.o;have HX_:=kq (At w4_ g1 27 4 tv) (at_mk (HX.o.blk.grown x_ (fun h=>by have:=hne_ _ h.symm;omega)) HX.o.len);have HB_:=kp (below_grown HB.o x_ HB.o.size (fun x hx=>by have:=hne_ _ hx;have:=HX_g.o;omega));have HR_:=kq (OwnU w4_ (g1+1) A4 (k+1) c4 (((l.take (k+1)).map fun p=>p.2.amount).map (Value.int .u64))) (by rw[HSN.o];exact ho_);clear ho_ x_ hA_ hne_ HX HB HR HR3 c0 c33;have c0:=HX_.o.blk.at_ HT0.o;have c33:=bcell HB_.o HA.o;obtain⟨qz,hqz⟩:∃q,(am == 0)=q:=⟨_,rfl⟩;have hqd:decide (am=0)=qz:=by rw[← hqz];rfl
        rw[hqz]at HCS;have v1:IntKind.i64.wrap ((k:Int)+1)=(k:Int)+1:=IntWalk.i64_in _ (by have:=HN16.o;omega);have v2:RowKit.wrap64 ((k:Int)+1)=(k:Int)+1:=wrap64_in _ (by clear v1;have:=HN16.o;omega);have HREL:=kq (OwnU w4_ (g1+1) A4 (k+1) c4 (((l.take (k+1)).map fun p=>p.2.amount).map (Value.int .u64))∧At w4_ g1 27 4 tv∧Below w.heap.size w w4_∧(pts.take (k+1)).Nodup) ⟨HR_.o,HX_.o,HB_.o,HNK.o⟩;have HKN:=kq (k+1≤n) (by clear v1 v2 hqd;omega);have HMS:=kq (∀q:Nat,q=k+1→n - q < n - k) (by clear v1 v2 hqd;intro q hq;omega);obtain⟨zn,hzn⟩:=xe (((l.take (k+1)).map fun q=>q.2.amount).contains 0);have HZN:=kp hzn;rw[← hzn]at HCS;have HQZ:=kp hqz;clear hzn hqz;cases zk with
        | true =>
         have HZ1:=kq (zn=true) (by rw[HCS.o];rfl);clear hqd HCS;go_wp2_with fail;go_roundw
         all_goals clear v1 v2
         case rel=>exact⟨k+1,A4,c4,HKN.o,by go_num,rfl,by rw[← HZN.o,HZ1.o],HREL⟩
         case measure=>simp [intOf];omega
        | false =>
         have HZ1:=kq (zn=qz) (by rw[HCS.o];rfl);clear HCS;go_wp2_with fail;go_roundw
         all_goals clear v1 v2
         case rel=>exact⟨k+1,A4,c4,HKN.o,by go_num,rfl,by rw[← HZN.o,HZ1.o,← HQZ.o],HREL⟩
         case measure=>simp [intOf];omega
      ·obtain rfl:k=n:=by omega
       have HLE:=kp HI.o.2.2.1;have HRN:=kq (OwnU w_ (g1+1) A3 k c3 xs1) (by have h:=HR.o;rw[List.take_of_length_le (by have:=HLE.o;omega)]at h;rw[HX1.o];exact h)
       have HTF:=kp (show tw=false by
        have h:=HND.o;rw[List.take_of_length_le (by rw[HPTS.o,List.length_map,HINL.o];exact Nat.le_refl _)] at h
        rw[HTE.o,decide_eq_true h];rfl)
       have HZN:=kq (((l.take k).map fun p=>p.2.amount).contains 0=z1) (by rw[List.take_of_length_le (by have:=HLE.o;omega),HZ1.o];rfl);go_wp2_with fail
       go_meet
       case rel=>exact⟨A3,c3,rfl,by rw[HZN.o],kp ⟨HRN.o,HX.o,HB.o,HTF.o⟩⟩
    case rest =>
     obtain⟨A3_,c3_,rfl,rfl,hI⟩:=hcut;clear HX HB c0;have HU:=kp hI.o.1;have HX:=kp hI.o.2.1;have HB:=kp hI.o.2.2.1;have HTF:=kp hI.o.2.2.2;clear hI;try clear w_
     rename World=>w_;have c1:=HX.o.blk.at_ HT1.o;obtain⟨gs,hgs⟩:=xe w_.heap.size;have HG1:=kq (g1+1≤gs∧w.heap.size≤gs) (by have h1:=HX.o.lt;have h2:=HB.o.size;omega);have HUL:=kq (∀q,A3_.map Addr.block=some q→q < gs) (fun q hq=>by rw[hgs];exact own_lt HU.o q hq);have HGS:=kq (gs≤w_.heap.size) (by omega);have HNN:=kp HN16.o.2;clear hgs;go_wp2_with fail;go_loopw [5,6,9] (fun s5 s6 iv wr=>∃k:Nat,∃A3 c3,∃zb:Bool,k≤n2∧iv=.int .i64 k∧s5=.slice A3 k c3∧s6=.bool zb∧Hid (zb=(z1 ||(((os.take k).map Outp.amount).contains 0))∧OwnU wr gs A3 k c3 (((os.take k).map Outp.amount).map (Value.int .u64))∧At wr g1 27 4 tv∧Below w.heap.size w wr∧OwnU wr (g1+1) A3_ n c3_ xs1∧gs≤wr.heap.size)) (fun _ _ iv _=>n2 - (intOf iv).toNat)
     case atStart=>exact⟨0,none,0,z1,by omega,rfl,rfl,rfl,kp ⟨by simp,World.ownsRow_nil _ _ _ _,HX.o,HB.o,HU.o,HGS.o⟩⟩
     case round =>
      obtain⟨k,A3,c3,zb,hk,rfl,rfl,rfl,hI⟩:=hrel;clear HX HB c1 HU HGS;have HZB:=kp hI.o.1;have HR:=kp hI.o.2.1;have HX:=kp hI.o.2.2.1;have HB:=kp hI.o.2.2.2.1;have HU:=kp hI.o.2.2.2.2.1;have HGS:=kp hI.o.2.2.2.2.2;clear hI;rename World=>w_;have c1:=HX.o.blk.at_ HT1.o;by_cases hlt:k < n2
      ·obtain⟨b,off,p,rfl,hp,hok,hc⟩:=HO.o.at_ hlt;have hw33:=hc 32 _ (out_at hok);have c33:=bcell HB.o hw33;have HSN:=kp (am_snoc Outp.amount hp);have HCS:=kp (cont_snoc Outp.amount hp);obtain⟨am,ham⟩:=xe p.amount;rw[← ham]at HSN HCS c33 hw33;obtain⟨xs,hxs⟩:=xe (((os.take k).map Outp.amount).map (Value.int .u64));rw[← hxs]at HR HSN;obtain⟨zk,hzk⟩:=xe (((os.take k).map Outp.amount).contains 0);rw[← hzk]at HCS HZB;have HW33:=kp hw33;clear hp hok hc ham hxs hzk hw33;have HR3:=kq (w_.ownsRow gs 25 1 (.slice A3 k c3) k xs) HR.o;have HGZ:=kq (gs≤w_.heap.size) HGS.o;go_wp2_with (first|(at_builtin;refine wpl_app1 rfl rfl el_us HR3.o rfl (m:=1) rfl ?_ ?_ ?_ ?_ ?_ ?_))
       ·rfl
       ·rfl
       ·have:=HNN.o;omega
       ·have:=HNN.o;omega
       ·exact HGZ.o
       intro A4 c4 w4_ ho_ x_ hA_;have hne_:=own_from HR3.o;have HX_:=kq (At w4_ g1 27 4 tv) (at_mk (HX.o.blk.grown x_ (fun h=>by have:=hne_ _ h.symm;have:=HG1.o;omega)) HX.o.len);have HB_:=kp (below_grown HB.o x_ HB.o.size (fun x hx=>by have:=hne_ _ hx;have:=HG1.o;omega));have HR_:=kq (OwnU w4_ gs A4 (k+1) c4 ((((os.take (k+1)).map Outp.amount)).map (Value.int .u64))) (by rw[HSN.o];exact ho_);have HU_:=kq (OwnU w4_ (g1+1) A3_ n c3_ xs1) (own_kept HU.o x_ (fun q hq he=>by have h1:=hne_ _ he.symm;have h2:=HUL.o q (by rw[hq];rfl);omega));have HSZ_:=kq (gs≤w4_.heap.size) (Nat.le_trans HGZ.o x_.size);clear ho_ x_ hA_ hne_ HX HB HR HR3 HU HGS HGZ c1 c33;have c1:=HX_.o.blk.at_ HT1.o;have c33:=bcell HB_.o HW33.o;have HKN:=kq (k+1≤n2) (by omega);have HREL:=kq (OwnU w4_ gs A4 (k+1) c4 (((os.take (k+1)).map Outp.amount).map (Value.int .u64))∧At w4_ g1 27 4 tv∧Below w.heap.size w w4_∧OwnU w4_ (g1+1) A3_ n c3_ xs1∧gs≤w4_.heap.size) ⟨HR_.o,HX_.o,HB_.o,HU_.o,HSZ_.o⟩;have v1:IntKind.i64.wrap ((k:Int)+1)=(k:Int)+1:=IntWalk.i64_in _ (by have:=HNN.o;omega);have v2:RowKit.wrap64 ((k:Int)+1)=(k:Int)+1:=wrap64_in _ (by clear v1;have:=HNN.o;omega);cases zb with
       | true =>
        have HZ1':=kq (true=(z1 ||(((os.take (k+1)).map Outp.amount).contains 0))) (by rw[HCS.o,← Bool.or_assoc,← HZB.o];rfl);go_wp2_with fail;go_roundw
        all_goals clear v1 v2
        case rel=>exact⟨k+1,A4,c4,true,HKN.o,by go_num,rfl,rfl,kp ⟨HZ1'.o,HREL.o⟩⟩
        case measure=>simp [intOf];omega
       | false =>
        obtain⟨qz,hqz⟩:∃q,(am == 0)=q:=⟨_,rfl⟩;have HZ1':=kq (qz=(z1 ||(((os.take (k+1)).map Outp.amount).contains 0))) (by rw[HCS.o,← Bool.or_assoc,← HZB.o,hqz];rfl);go_wp2_with fail;go_roundw
        all_goals clear v1 v2
        case rel=>exact⟨k+1,A4,c4,qz,HKN.o,by go_num,rfl,by first|rfl|rw[hqz],kp ⟨HZ1'.o,HREL.o⟩⟩
        case measure=>simp [intOf];omega
      ·obtain rfl:k=n2:=by omega
       have HLE2:=kp HO.o.2.2.1;have HRN:=kq (OwnU w_ gs A3 k c3 xs2) (by have h:=HR.o;rw[List.take_of_length_le (by have:=HLE2.o;omega)]at h;rw[HX2.o];exact h);have HZN:=kq (zb=(z1 || z2)) (by rw[HZB.o,List.take_of_length_le (by have:=HLE2.o;omega),HZ2.o];rfl);have HCK2:=kq (ck=if zb=true then 8 else if r1≠0 then r1 else if r2≠0 then r2 else if s1≠s2 then 9 else 0) (by rw[HCK.o,hlf.o,HTF.o,HZN.o,if_neg (by simp),if_neg (by simp)]);cases zb with
       | true =>
        have HC0:=kq (ck=8) (by rw[HCK2.o];rfl);go_wp2_with fail;go_ret
        exact⟨by rw[HC0.o];rfl,HB.o⟩
       | false =>
        have HC0:=kq (ck=if r1≠0 then r1 else if r2≠0 then r2 else if s1≠s2 then 9 else 0) (by rw[HCK2.o,if_neg (by simp)]);have HSU:=kq (SzG w_ gs) HGS.o;clear HGS HR;go_wp2_with fail;refine(HA1.o _ _ _ HU.o.sl).mono ?_;clear HU c1;rintro e w_ ⟨rfl,y_⟩;replace HB:=kp (HB.o.grow' y_);replace HX:=kp (HX.o.grow y_);replace HRN:=kp (HRN.o.grow y_);replace HSU:=kp (HSU.o.grow y_);clear y_;by_cases h1:r1=0
        ·have HC3:=kq (ck=if r2≠0 then r2 else if s1≠s2 then 9 else 0) (by rw[HC0.o];simp [h1]);subst h1;have c2:=HX.o.blk.at_ HT2.o;have HSZ:=kq (gs≤w_.heap.size) HSU.o;have HR3:=kq (w_.ownsRow gs 25 1 (.slice A3 k c3) k xs2) HRN.o;go_wp2_with (first|(at_builtin;refine wpl_app1 rfl rfl el_us HR3.o rfl (m:=1) rfl ?_ ?_ ?_ ?_ ?_ ?_))
         ·rfl
         ·rfl
         ·have:=HNN.o;omega
         ·have:=HNN.o;omega
         ·exact HSZ.o
         intro A5 c5 w4_ ho_ x_ hA_;have hne_:=own_from HR3.o;have HB_:=kp (below_grown HB.o x_ HB.o.size (fun x hx=>by have:=hne_ _ hx;have:=HG1.o;omega));have HS5:=kq (Sl w4_ w4_.heap.size 1 A5 (k+1) xs3) (by rw[HZ.o];exact Sl.of_own ho_);clear ho_ x_ hA_ hne_ HB HR3 HRN HX c2;go_wp2_with fail;refine(HA2.o _ _ _ HS5.o).mono ?_;rintro e w5_ ⟨rfl,y_⟩;have HB:=kp (HB_.o.grow' y_);clear y_ HB_ HS5;by_cases h2:r2=0
         ·have HC4:=kq (ck=if s1≠s2 then 9 else 0) (by rw[HC3.o];simp [h2]);subst h2;by_cases h3:s1=s2
          ·have d3:(s1 != s2)=false:=by simpa using h3
           have HC5:=kq (ck=0) (by rw[HC4.o];simp [h3]);clear h3;go_wp2_with fail;go_ret
           exact⟨by rw[HC5.o];rfl,HB.o⟩
          ·have d3:(s1 != s2)=true:=by simpa using h3
           have HC5:=kq (ck=9) (by rw[HC4.o];simp [h3]);clear h3;go_wp2_with fail;go_ret
           exact⟨by rw[HC5.o];rfl,HB.o⟩
         ·have d2:(r2 != 0)=true:=by simpa using h2
          have HC4:=kq (ck=r2) (by rw[HC3.o];simp [h2]);clear h2;go_wp2_with fail;go_ret
          exact⟨by rw[HC4.o];rfl,HB.o⟩
        ·have d1:(r1 != 0)=true:=by simpa using h1
         have HC3:=kq (ck=r1) (by rw[HC0.o];simp [h1]);clear h1;go_wp2_with fail;go_ret
         exact⟨by rw[HC3.o];rfl,HB.o⟩
theorem ptext_any (g : Nat) (K : Nat → Prop) (xs : List UInt8) {A : Option Addr} {n c Bd : Nat} {bs : List UInt8} (w : World) (h : PenAt w K g xs) (hs : Sl w Bd 1 A n (bs.map B)) (hbd : ∀ k, k < Bd → K k) (hl : xs.length + n ≤ 900000) :
  Calls Tryz.prog 103 #[.pointer (some ⟨g,0,none⟩),.slice A n c] w fun e w'=>e=.returned (.tuple #[])∧PenAt w' K g (xs++(numB n++bs))∧Kept K w w':=by
 have HP:=kp h;have HS:=kp hs;have HBD:=kp hbd;have hbn:bs.length=n:=by have:=hs.len;simpa using this
 have HBN:=kp hbn;have HU:=kp (numB_le (n:=n) (by omega));have q1:=conv_u64' (n:=n) (by omega);clear h hs hbd hbn
 go_enter Tryz.func103,Tryz.ntmps103
 go_wp2_with fail;refine(num_any g n K xs _ HP.o (by omega) (by omega)).mono ?_;rintro e v_ ⟨rfl,hp_,hk_⟩;have HK:=kp hk_;have HS2:=kp (HS.o.below (hk_.below HBD.o));obtain⟨ys,hys⟩:=xe (xs++numB n);have HYE:=kq (ys++bs=xs++(numB n++bs)) (by rw[hys,List.append_assoc]);have HYL:=kq (ys.length≤xs.length+9) (by rw[hys,List.length_append];have:=HU.o;omega);rw[← hys]at hp_;obtain⟨Ap,cp,hq1,hq2,hq3,hq4⟩:=hp_;have HPB:=kp hq1;have HPO:=kp hq2;have HPK:=kp hq3;have HPN:=kp hq4;have hcl:=hq1.at_ (i:=0) rfl;have hyl:=HYL.o;have HONE:=kp (all_bytes bs);clear hk_ hq1 hq2 hq3 hq4 HS HP q1 hys;go_wp2_with (first|(at_builtin;refine wpl_apps rfl rfl el_u8 HPO.o rfl HS2.o rfl HONE.o (by omega) (by omega) (Nat.zero_le _) ?_));intro A3 c3 w3_ ho_ x_ hA_;have hll:(ys++bs).length=ys.length+n:=by rw[List.length_append,HBN.o]
 have HPB3:=kp (HPB.o.grown x_ (fun e=>(HPN.o e.symm).elim));have HAP:=kp (pen_app (ys:=ys++bs) (A':=A3) (c':=c3) HPB.o HPO.o HPK.o HPN.o (by rw[hll,List.map_append];exact ho_) x_ (fun b hb=>hA_.elim (fun h=>.inl (h.symm.trans hb)) (fun h=>.inr (by obtain⟨a,h1,h2⟩:=h;subst h1;have h3:a.block=b:=Option.some.inj hb;omega))));rw[hll]at HAP;clear ho_ x_ hA_ hcl hll;have hcl:=HPB3.o.at_ (i:=0) rfl;have hfz:=HPB3.o.frozen 0;go_wp2_with fail;refine bodyPost_end (results_none rfl _ _ _) rfl ?_;exact⟨rfl,by rw[← HYE.o];exact HAP.o.1,HK.o.trans HAP.o.2⟩
def Kq(gp q:Nat):Nat→Prop:=fun k=>k < gp∨k=q
def K0(gp:Nat):Nat→Prop:=fun k=>k < gp
def KB(gp:Nat)(w4 w:World):Prop:=Below gp w4 w∧gp≤w4.heap.size
theorem KB.sz{gp:Nat}{w4 w:World}(h:KB gp w4 w):gp≤w.heap.size:=Nat.le_trans h.2 h.1.size
theorem KB.grow{gp:Nat}{w4 w w2:World}(h:KB gp w4 w)(k:Grow w w2):KB gp w4 w2:=⟨h.1.trans (k.mono h.sz),h.2⟩
theorem KB.kept{gp q:Nat}{w4 w w2:World}(h:KB gp w4 w)(k:Kept (Kq gp q) w w2):KB gp w4 w2:=⟨h.1.trans (k.below (fun j hj=>.inl hj)),h.2⟩
theorem PenAt.plus{w:World}{gp g q:Nat}{xs:List UInt8}{T:TypeId}{cs:List Value}(h:PenAt w (K0 gp) g xs)(hb:Blk w q T cs)(hT:T≠5)(hq:q≠g):PenAt w (Kq gp q) g xs:=by
 obtain⟨A,c,h1,h2,h3,h4⟩:=h;refine⟨A,c,h1,h2,fun k hk=>?_,h4⟩;rcases hk with hk|rfl
 ·exact h3 k hk
 ·refine⟨hb.lt,hq,fun e=>?_⟩;rcases h2.2 with ⟨hv,_⟩|⟨b,cap,cur,hv,_,hh,_⟩
  ·injection hv with hA;subst hA;cases e
  ·injection hv with hA;subst hA
   have e2:b=k:=Option.some.inj e;subst e2;unfold Blk at hb;rw[hb]at hh;injection hh with hh
   injection hh with _ hh
   exact hT hh
theorem PenAt.minus{w:World}{gp g q:Nat}{xs:List UInt8}(h:PenAt w (Kq gp q) g xs):PenAt w (K0 gp) g xs:=h.less (fun k hk=>.inl hk)
theorem At.kept{w w2:World}{gp q n:Nat}{T:TypeId}{cs:List Value}(h:At w q T n cs)(k:Kept (Kq gp q) w w2):At w2 q T n cs:=⟨k.blk h.1 (.inr rfl),h.2⟩
theorem putI_len{i:Inp}(h:i.ok)(h2:i.secret.length≤64)(h3:0≤i.index∧i.index≤15):(putI i).length≤130:=by
 unfold putI;simp only [List.length_append];have a:=numB_le (n:=i.index.toNat) (by omega);have b:=numB_le (n:=i.amount.toNat) (by have:=h.2.2;unfold U64 at this;omega);have c:=numB_le (n:=i.secret.length) (by omega);have d:=h.1;omega
theorem putO_len{o:Outp}(h:o.ok):(putO o).length≤50:=by
 unfold putO;simp only [List.length_append];have b:=numB_le (n:=o.amount.toNat) (by have:=h.2;unfold U64 at this;omega);have d:=h.1;omega
theorem fm_len{α:Type}(f:α→List UInt8)(m:Nat):∀(l:List α),(∀x∈l,(f x).length≤m)→(l.flatMap f).length≤l.length*m
 |[],_=>by simp
 | x::l,h=>by
  rw[List.flatMap_cons,List.length_append,List.length_cons,Nat.succ_mul];have h1:=h x (List.mem_cons_self ..);have h2:=fm_len f m l (fun y hy=>h y (List.mem_cons_of_mem _ hy));omega
theorem fm_snoc{α:Type}(f:α→List UInt8){l:List α}{k:Nat}{p:α}(h:l[k]? = some p):(l.take (k+1)).flatMap f=(l.take k).flatMap f++f p:=by
 rw[take_snoc h];simp
theorem fm_le{α:Type}(f:α→List UInt8)(m:Nat){l:List α}(k:Nat)(h:∀x∈l,(f x).length≤m):((l.take k).flatMap f).length≤k*m:=by
 have:=fm_len f m (l.take k) (fun x hx=>h x (List.mem_of_mem_take hx));have h2:(l.take k).length≤k:=by rw[List.length_take];omega
 exact Nat.le_trans this (Nat.mul_le_mul_right m h2)
end Go.Proofs.YtnnjjbkdjkjnpaaGreatDoor

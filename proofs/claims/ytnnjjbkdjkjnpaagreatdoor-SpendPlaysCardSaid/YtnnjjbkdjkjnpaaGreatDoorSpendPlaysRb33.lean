/- States that the laws begin with,in plain words. -/
import Derived.Test.YtnnjjbkdjkjnpaaGreatDoorSpendPlaysRb32
set_option linter.unusedSimpArgs false
set_option linter.unusedVariables false
set_option maxRecDepth 100000
set_option maxHeartbeats 16000000
namespace Go.Proofs.YtnnjjbkdjkjnpaaGreatDoor
open Go.RowKit Go.Maps Go.Sort Go.Shelf
def sttC(l:List HeldV):CoinsL:=l.foldl (fun X h=>(rputC X h.1 h.2.2).1) []
def sttK(l:List HeldV):LocksL:=l.foldl (fun Y h=>(rputK Y h.1 (h.2.2,h.2.1)).1) []
theorem sttC_snoc(l:List HeldV)(h:HeldV):sttC (l++[h])=(rputC (sttC l) h.1 h.2.2).1:=by unfold sttC;rw[List.foldl_append];rfl
theorem sttK_snoc(l:List HeldV)(h:HeldV):sttK (l++[h])=(rputK (sttK l) h.1 (h.2.2,h.2.1)).1:=by unfold sttK;rw[List.foldl_append];rfl
def GoodC(X:CoinsL):Prop:=(∃L s,RelC X L s)∧∀e∈X,e.2.2≠0
def GoodK(Y:LocksL):Prop:=(∃L s,RelK Y L s)∧∀e∈Y,e.2.1.2≠0
theorem GoodC.nil:GoodC []:=⟨⟨[],0,RelC.nil⟩,by simp⟩
theorem GoodK.nil:GoodK []:=⟨⟨[],0,RelK.nil⟩,by simp⟩
theorem rputC_mem{X:CoinsL}{p:PtK}{c:CoinV}{e:PtK×CoinV}(h:e∈(rputC X p c).1):e∈X∨(e=(p,c)∧c.2≠0):=by
 unfold rputC at h;split at h
 ·exact .inl h
 ·rename_i hc;split at h
  ·exact .inl h
  ·split at h
   ·exact .inl h
   ·split at h
    ·exact .inl h
    ·rcases List.mem_cons.1 ((insC_perm p c X).mem_iff.1 h) with h|h
     ·exact .inr ⟨h,by omega⟩
     ·exact .inl h
theorem rputK_mem{X:LocksL}{p:PtK}{c:LockV}{e:PtK×LockV}(h:e∈(rputK X p c).1):e∈X∨(e=(p,c)∧c.1.2≠0):=by
 unfold rputK at h;split at h
 ·exact .inl h
 ·rename_i hc;split at h
  ·exact .inl h
  ·split at h
   ·exact .inl h
   ·split at h
    ·exact .inl h
    ·rcases List.mem_cons.1 ((insK_perm p c X).mem_iff.1 h) with h|h
     ·exact .inr ⟨h,by omega⟩
     ·exact .inl h
theorem GoodC.put{X:CoinsL}(h:GoodC X){p:PtK}{c:CoinV}(hp:PtOK p)(hc:CoinOK c):GoodC (rputC X p c).1:=by
 obtain⟨⟨L,s,hr⟩,hz⟩:=h;refine⟨?_,fun e he=>?_⟩
 ·by_cases h0:putR L s p c=0
  ·exact⟨_,_,hr.put hp hc h0⟩
  ·exact⟨L,s,by rw[rputC_same (by rw[hr.code p c hc];exact h0)];exact hr⟩
 ·rcases rputC_mem he with h|⟨rfl,h⟩
  ·exact hz e h
  ·exact h
theorem GoodK.put{X:LocksL}(h:GoodK X){p:PtK}{c:LockV}(hp:PtOK p)(hc:LockOK c):GoodK (rputK X p c).1:=by
 obtain⟨⟨L,s,hr⟩,hz⟩:=h;refine⟨?_,fun e he=>?_⟩
 ·by_cases h0:putQ L s p c.1=0
  ·exact⟨_,_,hr.put hp hc h0⟩
  ·exact⟨L,s,by rw[rputK_same (by rw[hr.code p c hc];exact h0)];exact hr⟩
 ·rcases rputK_mem he with h|⟨rfl,h⟩
  ·exact hz e h
  ·exact h
theorem sttC_good:∀(l:List HeldV),(∀a∈l,HeldOK a)→∀X,GoodC X→GoodC (l.foldl (fun X h=>(rputC X h.1 h.2.2).1) X)
 |[],_,X,hX=>hX
 | a::l,h,X,hX=>sttC_good l (fun x hx=>h x (List.mem_cons_of_mem _ hx)) _ (hX.put (h a (List.mem_cons_self ..)).1 (h a (List.mem_cons_self ..)).2.2)
theorem sttK_good:∀(l:List HeldV),(∀a∈l,HeldOK a)→∀X,GoodK X→GoodK (l.foldl (fun Y h=>(rputK Y h.1 (h.2.2,h.2.1)).1) X)
 |[],_,X,hX=>hX
 | a::l,h,X,hX=>sttK_good l (fun x hx=>h x (List.mem_cons_of_mem _ hx)) _ (hX.put (h a (List.mem_cons_self ..)).1 ⟨(h a (List.mem_cons_self ..)).2.2,(h a (List.mem_cons_self ..)).2.1⟩)
theorem GoodC.self{X:CoinsL}(h:GoodC X):RelC X X (amtC X):=by
 obtain⟨⟨L,s,hr⟩,_⟩:=h;refine⟨.refl _,hr.sort,⟨hr.okX,(hr.perm.map (·.1)).nodup_iff.2 hr.ok.2⟩,rfl,by rw[hr.amt];exact hr.max,by rw[hr.lenX];exact hr.len,hr.ixX⟩
theorem GoodK.self{X:LocksL}(h:GoodK X):RelK X X (amtK X):=by
 obtain⟨⟨L,s,hr⟩,_⟩:=h;refine⟨.refl _,hr.sort,⟨hr.okX,(hr.perm.map (·.1)).nodup_iff.2 hr.ok.2⟩,rfl,by rw[hr.amt];exact hr.max,by rw[hr.lenX];exact hr.len,hr.ixX⟩
theorem amtC_ge{Y:CoinsL}(h:∀e∈Y,AtOKC e){e:PtK×CoinV}(he:e∈Y):e.2.2≤amtC Y:=by
 obtain⟨P,Q,rfl⟩:=List.append_of_mem he;have h1:=amtC_nn (l:=P) (fun x hx=>h x (by simp [hx]));have h2:=amtC_nn (l:=Q) (fun x hx=>h x (by simp [hx]));rw[amtC_app,show e::Q=[e]++Q from rfl,amtC_app,amtC_one];omega
theorem amtK_ge{Y:LocksL}(h:∀e∈Y,AtOKK e){e:PtK×LockV}(he:e∈Y):e.2.1.2≤amtK Y:=by
 obtain⟨P,Q,rfl⟩:=List.append_of_mem he;have h1:=amtK_nn (l:=P) (fun x hx=>h x (by simp [hx]));have h2:=amtK_nn (l:=Q) (fun x hx=>h x (by simp [hx]));rw[amtK_app,show e::Q=[e]++Q from rfl,amtK_app,amtK_one];omega
theorem take_le{X:CoinsL}(h:∀e∈X,AtOKC e)(k:Nat):amtC (X.take k)≤amtC X:=by
 have h1:=amtC_nn (l:=X.drop k) (fun x hx=>h x (List.mem_of_mem_drop hx));have h2:=amtC_app (X.take k) (X.drop k);rw[List.take_append_drop]at h2;omega
theorem takeK_le{X:LocksL}(h:∀e∈X,AtOKK e)(k:Nat):amtK (X.take k)≤amtK X:=by
 have h1:=amtK_nn (l:=X.drop k) (fun x hx=>h x (List.mem_of_mem_drop hx));have h2:=amtK_app (X.take k) (X.drop k);rw[List.take_append_drop]at h2;omega
theorem key_new{α β:Type}{X:List (α×β)}(hd:(X.map (·.1)).Nodup){k:Nat}{e:α×β}(he:X[k]? = some e):∀x∈X.take k,x.1≠e.1:=by
 intro x hx hxe;obtain⟨j,hj⟩:=List.mem_iff_getElem?.1 hx;have hjl:=(List.getElem?_eq_some_iff.1 hj).1;have hkk:=(List.getElem?_eq_some_iff.1 he).1;rw[List.length_take]at hjl;have hj2:X[j]? = some x:=by rw[List.getElem?_take,if_pos (by omega)]at hj;exact hj
 have h1:(X.map (·.1))[j]? = some e.1:=by rw[List.getElem?_map,hj2];simp [hxe]
 have h2:(X.map (·.1))[k]? = some e.1:=by rw[List.getElem?_map,he];rfl
 have:=(List.getElem?_inj (by rw[List.length_map];omega) hd).1 (h1.trans h2.symm);omega
theorem madeC_step {X : CoinsL} (h : GoodC X) {k : Nat} {e : PtK × CoinV} (he : X[k]? = some e) :
  putR (X.take k) (amtC (X.take k)) e.1 e.2=0∧(addE (amtC (X.take k)) e.2.2).1=amtC (X.take (k+1))∧X.take k++[(e.1,e.2)]=X.take (k+1)∧0≤amtC (X.take k)∧amtC (X.take k)≤4611686018427387904:=by
 have hs:=h.self;have hm:=List.mem_of_getElem? he;have hix:=hs.ix e hm;have hz:=h.2 e hm;have hkk:=(List.getElem?_eq_some_iff.1 he).1;have hlen:=hs.len;have hlk:(lookC (X.take k) e.1).isSome=false:=by rw[lookC_not (key_new hs.ok.2 he)];rfl
 have hle:=take_le hs.okX (k+1);have hmx:=hs.max;have e1:X.take (k+1)=X.take k++[e]:=take_snoc he;have hamt:amtC (X.take (k+1))=amtC (X.take k)+e.2.2:=by rw[e1,amtC_app,amtC_one]
 have hge:=amtC_ge hs.okX hm;have hn:=amtC_nn (l:=X.take k) (fun x hx=>hs.okX x (List.mem_of_mem_take hx));have hc:=(hs.okX e hm).2.2;have ha:(addE (amtC (X.take k)) e.2.2)=(amtC (X.take k)+e.2.2,0):=by unfold addE;rw[if_pos (by omega)]
 refine⟨?_,by rw[ha,hamt],by rw[e1],hn,by have:=take_le hs.okX k;omega⟩;unfold putR;rw[if_neg (by omega),hlk,if_neg (by simp),if_neg (by rw[List.length_take];omega),ha]
theorem madeK_step {X : LocksL} (h : GoodK X) {k : Nat} {e : PtK × LockV} (he : X[k]? = some e) :
  putQ (X.take k) (amtK (X.take k)) e.1 e.2.1=0∧(addE (amtK (X.take k)) e.2.1.2).1=amtK (X.take (k+1))∧X.take k++[(e.1,(e.2.1,e.2.2))]=X.take (k+1)∧0≤amtK (X.take k)∧amtK (X.take k)≤4611686018427387904:=by
 have hs:=h.self;have hm:=List.mem_of_getElem? he;have hix:=hs.ix e hm;have hz:=h.2 e hm;have hkk:=(List.getElem?_eq_some_iff.1 he).1;have hlen:=hs.len;have hlk:(lookL (X.take k) e.1).isSome=false:=by rw[lookL_not (key_new hs.ok.2 he)];rfl
 have hle:=takeK_le hs.okX (k+1);have hmx:=hs.max;have e1:X.take (k+1)=X.take k++[e]:=take_snoc he;have hamt:amtK (X.take (k+1))=amtK (X.take k)+e.2.1.2:=by rw[e1,amtK_app,amtK_one]
 have hge:=amtK_ge hs.okX hm;have hn:=amtK_nn (l:=X.take k) (fun x hx=>hs.okX x (List.mem_of_mem_take hx));have hc:=(hs.okX e hm).2.1.2;have ha:(addE (amtK (X.take k)) e.2.1.2)=(amtK (X.take k)+e.2.1.2,0):=by unfold addE;rw[if_pos (by omega)]
 refine⟨?_,by rw[ha,hamt],by rw[e1],hn,by have:=takeK_le hs.okX k;omega⟩;unfold putQ;rw[if_neg (by omega),hlk,if_neg (by simp),if_neg (by rw[List.length_take];omega),ha]
open Go.RowKit Go.Shelf
def stV(A:Option Addr)(n c:Nat)(A2:Option Addr)(n2 c2:Nat):List Value:=[.slice A n c,.slice A2 n2 c2]
theorem stV_cl{A:Option Addr}{n c:Nat}{A2:Option Addr}{n2 c2:Nat}:Cl 2 (stV A n c A2 n2 c2):=⟨rfl,fun u hu=>by simp only [stV,List.mem_cons,List.not_mem_nil,or_false]at hu;rcases hu with rfl|rfl <;> rfl⟩
theorem row_state:RowT Tryz.prog 37 2:=⟨_,Tryz.underlying37,by kernel_rfl,by kernel_rfl⟩
theorem zero_state:(Tryz.prog.info? 37).map (·.zero)=some (some (.agg (stV none 0 0 none 0 0).toArray)):=by kernel_rfl
theorem len_state:(stV none 0 0 none 0 0).length=2:=rfl
theorem Sl.off2{w w':World}{B sz n g:Nat}{A:Option Addr}{xs ys:List Value}{T:TypeId}(h:Sl w B sz A n xs)(hz:3≤sz)(hg:At w g T 2 ys)(hw:w.grownBy w' (some g))(hB:B≤w.heap.size):Sl w' B sz A n xs:=by
 refine⟨h.1,fun hn=>?_⟩;obtain⟨q,off,hA,hq,hcell⟩:=h.2 hn;have hl:3≤xs.length:=by rw[h.1];exact Nat.le_trans hz (Nat.le_mul_of_pos_left sz hn)
 have hne:q≠g:=by
  rintro rfl;obtain⟨u,hu⟩:∃u,xs[2]? = some u:=⟨_,List.getElem?_eq_getElem (by omega)⟩;have h1:=hcell 2 u hu;rw[hg.blk.cell (off+2)]at h1;have h3:ys[off+2]? = none:=List.getElem?_eq_none (by rw[hg.len];omega);rw[h3]at h1;cases h1
 exact⟨q,off,hA,hq,fun j u hu=>(World.cell?_of_block (w:=w) (hw.block q (by omega) (fun e=>hne (Option.some.inj e)))).trans (hcell j u hu)⟩
theorem RowC.off2{w w':World}{n g:Nat}{A:Option Addr}{l:CoinsL}{ys:List Value}{T:TypeId}(h:RowC w A n l)(hg:At w g T 2 ys)(hw:w.grownBy w' (some g)):RowC w' A n l:=⟨(Sl.off2 h.1 (by omega) hg hw (Nat.le_refl _)).more hw.size,h.2⟩
theorem RowK.off2{w w':World}{n g:Nat}{A:Option Addr}{l:LocksL}{ys:List Value}{T:TypeId}(h:RowK w A n l)(hg:At w g T 2 ys)(hw:w.grownBy w' (some g)):RowK w' A n l:=⟨(Sl.off2 h.1 (by omega) hg hw (Nat.le_refl _)).more hw.size,h.2⟩
theorem RowC.nil(w:World):RowC w none 0 []:=⟨Sl.nil,by simp,rfl⟩
theorem RowK.nil(w:World):RowK w none 0 []:=⟨Sl.nil,by simp,rfl⟩
theorem built_atKs(parts:List (Nat×Value)):Tryz.prog.built 82 parts=Instr.fill (fun i=>(#[(0,33),(33,32),(65,33)]:Array (Nat×Nat))[i]?) (encAtK noAtK).toArray parts:=by kernel_rfl
theorem bt_atKs{p:PtK}{id:List UInt8}{c:CoinV}(hp:PtOK p)(hi:id.length=32)(hc:CoinOK c):Tryz.prog.built 82 [(0,.agg (ptV p).toArray),(1,.agg (id.map B).toArray),(2,.agg (coinV c).toArray)]=some (encAtK (p,(c,id))).toArray:=by
 have l1:=ptV_length hp.1;have l2:(id.map B).length=32:=by rw[List.length_map,hi]
 have l3:=coinV_length hc;have z1:=ptV_length ptz_ok.1;have z2:(noLock.2.map B).length=32:=by rw[List.length_map,noLock_ok.2]
 have z3:=coinV_length noCoin_ok;have h1:splice (encAtK noAtK) 0 (ptV p)=ptV p++(noLock.2.map B++coinV noCoin):=splice_mid (pre:=[]) (old:=ptV (pt 0)) (post:=noLock.2.map B++coinV noCoin) rfl (by rw[z1,l1])
 have h2:splice (ptV p++(noLock.2.map B++coinV noCoin)) 33 (id.map B)=(ptV p++id.map B)++(coinV noCoin++[]):=by
  rw[splice_mid (pre:=ptV p) (old:=noLock.2.map B) (post:=coinV noCoin) l1 (by rw[z2,l2])];simp
 have h3:splice ((ptV p++id.map B)++(coinV noCoin++[])) 65 (coinV c)=encAtK (p,(c,id)):=by
  rw[splice_mid (pre:=ptV p++id.map B) (old:=coinV noCoin) (post:=[]) (by rw[List.length_append,l1,l2]) (by rw[z3,l3])];unfold encAtK refV;simp
 rw[built_atKs,fill_cons (off:=0) (s:=33) (cs:=ptV p) rfl rfl l1 (by rw[encAtK_len noAtK_ok];omega),h1,
  fill_cons (off:=33) (s:=32) (cs:=id.map B) rfl rfl l2 (by simp only [List.length_append,l1,z2,z3];omega),h2,
  fill_cons (off:=65) (s:=33) (cs:=coinV c) rfl rfl l3 (by simp only [List.length_append,List.length_nil,l1,l2,z3];omega),h3,fill_nil]
theorem state_any {A : Option Addr} {n c : Nat} {A2 : Option Addr} {n2 c2 : Nat} {l l2 : List HeldV} (w : World) (h : HeldsAt w A n l) (h2 : HeldsAt w A2 n2 l2) (hn : n ≤ 100000) (hn2 : n2 ≤ 100000) :
  Calls Tryz.prog 10 #[.slice A n c,.slice A2 n2 c2] w fun e w'=>∃A3 n3 c3 A4 n4 c4,e=.returned (.agg (stV A3 n3 c3 A4 n4 c4).toArray)∧RowC w' A3 n3 (sttC l)∧RowK w' A4 n4 (sttK l2)∧Grow w w':=by
 have HH:=kp h;have HH2:=kp h2;obtain⟨w_,hw⟩:=xe w;have HB:=kq (Below w.heap.size w w_) (by rw[hw];exact Below.refl _ _)
 suffices H:Calls Tryz.prog 10 #[.slice A n c,.slice A2 n2 c2] w_ (fun e w'=>∃A3 n3 c3 A4 n4 c4,e=.returned (.agg (stV A3 n3 c3 A4 n4 c4).toArray)∧RowC w' A3 n3 (sttC l)∧RowK w' A4 n4 (sttK l2)∧Grow w w') by rw[hw]at H;exact H
 clear hw h h2
 go_enter Tryz.func10,Tryz.ntmps10
 have HC0:=kp (stV_cl (A:=none) (n:=0) (c:=0) (A2:=none) (n2:=0) (c2:=0));go_wp2_with (with_reducible first|refine wpl_alloc (o:=⟨some 4,_,_,_,_,_⟩) rfl rfl zero_state ?_);intro v_ b_ y_ s_;have HX_:=kp (at_mk b_ len_state);clear b_ s_;have HG_:=kp HB.o.size;replace HB:=kp (HB.o.grow' y_);generalize x_:w_.heap.size=g4 at HX_ HG_ ⊢;clear x_;have HQ_g:=HG_;clear HG_;have HQ:=HX_;clear y_ HX_;try clear w_
 rename World=>w_;go_wp2_with (with_reducible first|refine wpl_alloc (o:=⟨some 5,_,_,_,_,_⟩) rfl rfl zero_state ?_);intro v_ b_ y_ s_;have HX_:=kp (at_mk b_ len_state);clear b_ s_;have HG_:=kp HB.o.size;have HS_HQ:=kp (Nat.ne_of_lt HQ.o.lt);replace HB:=kp (HB.o.grow' y_);replace HQ:=kp (HQ.o.grow y_);generalize x_:w_.heap.size=g5 at HX_ HG_ HS_HQ ⊢;clear x_;have HS_g:=HG_;clear HG_;have HS:=HX_;clear y_ HX_;try clear w_
 rename World=>w_;have HI0:=kq (At w_ g5 37 2 (stV none 0 0 none 0 0)∧RowC w_ none 0 (sttC (l.take 0))∧At w_ g4 37 2 (stV none 0 0 none 0 0)∧Below w.heap.size w w_) ⟨HS.o,RowC.nil _,HQ.o,HB.o⟩;clear HB HQ HS;go_wp2_with fail;go_loopw [6] (fun iv wr=>∃(k:Nat),k≤n∧iv=.int .i64 k∧Hid (∃A3 m c3,At wr g5 37 2 (stV A3 m c3 none 0 0)∧RowC wr A3 m (sttC (l.take k))∧At wr g4 37 2 (stV none 0 0 none 0 0)∧Below w.heap.size w wr)) (fun iv _=>n - (intOf iv).toNat)
 case atStart=>exact⟨0,Nat.zero_le _,rfl,kp ⟨none,0,0,HI0.o⟩⟩
 case round =>
  obtain⟨k,hk,rfl,hI⟩:=hrel;clear HI0;obtain⟨A3,m,c3,hs_,hr_,hq_,y_⟩:=hI.o;have HS:=kp hs_;have HR:=kp hr_;have HQ:=kp hq_;have HB:=kp y_;clear hI hs_ hr_ hq_ y_;rename World=>w_;by_cases hlt:k < n
  ·obtain⟨b,off,a,rfl,hbl,ha,hcc,hok⟩:=HH.o.at_ hlt;have HGD:=kp (sttC_good (l.take k) (fun x hx=>HH.o.2.2 x (List.mem_of_mem_take hx)) [] GoodC.nil);obtain⟨⟨L,s,hr⟩,-⟩:=HGD.o;have HSN:=kq (sttC (l.take (k+1))=(rputC (sttC (l.take k)) a.1 a.2.2).1) (by rw[take_snoc ha,sttC_snoc]);have HRP:=kp (fun w' (h':RowC w' A3 m (sttC (l.take k)))=>rput19_any (c:=c3) a.1 a.2.2 w' h' hok.1 hok.2.2 (by rw[← h'.2.2];have:=RelC.lenX hr;have:=hr.len;unfold sttC at *;omega) (by have:=RelC.amt hr;have:=hr.max;unfold sttC at *;omega));unfold ptA coinA at HRP;have HPC:=kp (ptV_cl hok.1);have HVC:=kp (coinV_cl hok.2.2);have HBL:=kp hbl;have HM1:=kp (fun w' (hb:Below w.heap.size w w')=>show ∀j u,(ptV a.1)[j]? = some u→w'.cell? ⟨b,off+k*98+j,none⟩=some u from fun j u hu=>bcell hb (hcc j u (heldV_pt hu)));have HM2:=kp (fun w' (hb:Below w.heap.size w w')=>show ∀j u,(coinV a.2.2)[j]? = some u→w'.cell? ⟨b,off+k*98+65+j,none⟩=some u from fun j u hu=>bcell hb (by have:=hcc (65+j) u (heldV_coin hok hu);rwa [← Nat.add_assoc]at this));obtain⟨es,hes⟩:=xe (ptV a.1);obtain⟨vs,hvs⟩:=xe (coinV a.2.2);obtain⟨RS,hRS⟩:=xe (rputC (sttC (l.take k)) a.1 a.2.2);rw[← hes]at HPC HM1 HRP;rw[← hvs]at HVC HM2 HRP;rw[← hRS]at HSN HRP;obtain⟨Xk,hXk⟩:=xe (sttC (l.take k));rw[← hXk]at HR HRP;clear hbl ha hcc hok hr HGD hes hvs hRS hXk;obtain⟨Xn,rc⟩:=RS;go_wp2_with fail;try go_wp2_with fail
   repeat' (first|(with_reducible refine wpp (id:=5) Grow [0,2,0,0,0,0,2,0,0,0,0,2,3,0,0,0,0,0] (.get 0 (.get 1 (.get 2 (.get 3 (.get 4 (.get 5 (.get 6 (.get 7 (.get 8 (.get 9 (.get 10 (.get 11 (.act 12 (.get 13 (.get 14 (.get 15 (.get 16 (.get 17 .done)))))))))))))))))) Grow.refl Grow.trans ?_)|go_values|go_skip|go_guarded|go_step|go_upon|go_back)
   intro w_ hd_;have y_:=hd_.grow;replace HB:=kp (HB.o.grow' y_);replace HS:=kp (HS.o.grow y_);replace HR:=kp (HR.o.grow y_);replace HQ:=kp (HQ.o.grow y_);clear y_ hd_;replace HM1:=kp (HM1.o _ HB.o);replace HM2:=kp (HM2.o _ HB.o);replace HBL:=kq (b < w_.heap.size) (Nat.lt_of_lt_of_le HBL.o HB.o.size);have c0:=HS.o.blk.at_ (i:=0) rfl;repeat (first|(refine plc (fun K hK=>?_);go_simp;refine hK _ _ ?_;clear hK K)|(refine pls (fun K hK=>?_);go_simp;refine hK _ _ ?_;clear hK K)|(refine psa (fun K hK=>?_);go_simp;refine hK _ _ ?_;clear hK K)|(refine pl_load rfl rfl (by first|exact wanted_none rfl|(go_simp;done)|rfl) rfl (by first|rfl|(go_simp;rfl)) (by kernel_rfl) (by first|exact c0) (fun K hK=>?_);go_simp;refine hK _ _ ?_;clear hK K)|(refine pl_loadnow rfl rfl (by first|exact wanted_none rfl|(go_simp;done)|rfl) rfl (by first|rfl|(go_simp;rfl)) (by kernel_rfl) (by first|exact c0) (fun K hK=>?_);go_simp;refine hK _ _ ?_;clear hK K))
   refine pl_loadm rfl (by decide) (by exact wanted_none rfl) rfl row_point HM1.o HBL.o (by first|rfl|(go_simp;done)|rfl) HPC.o.len (fun K hK=>?_);go_simp;refine hK _ _ ?_;clear hK K;repeat ((first|refine plc (fun K hK=>?_)|refine pls (fun K hK=>?_)|refine psa (fun K hK=>?_));go_simp;refine hK _ _ ?_;clear hK K)
   refine pl_loadm rfl (by decide) (by exact wanted_none rfl) rfl row_coin HM2.o HBL.o (by first|rfl|(go_simp;done)|rfl) HVC.o.len (fun K hK=>?_);go_simp;refine hK _ _ ?_;clear hK K;repeat ((first|refine plc (fun K hK=>?_)|refine pls (fun K hK=>?_)|refine psa (fun K hK=>?_));go_simp;refine hK _ _ ?_;clear hK K)
   clear c0 HM1 HM2 HBL;refine pl_act rfl (by first|exact wanted_none rfl|(go_simp;done)|rfl) (fun K hK=>?_);go_wp2_with fail;refine(HRP.o w_ HR.o).mono ?_;rintro e v_ ⟨A9,m9,c9,rfl,hx9,y_⟩;have HX9:=kp hx9;go_wp2_with fail;refine hK _ _ (fun h=>by cases h) ?_;clear hK K hx9 HR;replace HS:=kp (HS.o.grow y_);replace HQ:=kp (HQ.o.grow y_);replace HB:=kp (HB.o.grow' y_);clear y_;try clear w_
   rename World=>w_;repeat ((first|refine plc (fun K hK=>?_)|refine pls (fun K hK=>?_)|refine psa (fun K hK=>?_));go_simp;refine hK _ _ ?_;clear hK K)
   refine pl_done ?_;go_wp2_with (first|(refine wpl_store1 (o:=⟨none,.store _ _ _,_,_,_,_⟩) rfl rfl HS.o.blk rfl rfl (by kernel_rfl) rfl rfl (by have:=HS.o.len;omega) ?_));intro v_ b_ g_ s_;have HX_:=kp (HX9.o.off2 HS.o g_);have HS_:=kq (At v_ g5 37 2 (stV A9 m9 c9 none 0 0)) ⟨b_,rfl⟩;have HQ_:=kp (At.off HQ.o g_ HS_HQ.o);have HB_:=kp (put_below HB.o HS_g.o g_);clear b_ g_ s_ HX9 HS HQ HB;go_wp2_with fail;go_roundw
   case rel=>exact⟨k+1,by omega,by go_num,kp ⟨A9,m9,c9,HS_.o,by rw[HSN.o];exact HX_.o,HQ_.o,HB_.o⟩⟩
   case measure=>simp [intOf];omega
  ·obtain rfl:k=n:=by omega
   have HRN:=kq (RowC w_ A3 m (sttC l)) (by have h:=HR.o;rw[List.take_of_length_le (by have:=HH.o.1;omega)]at h;exact h);have HI0:=kq (At w_ g5 37 2 (stV A3 m c3 none 0 0)∧RowC w_ A3 m (sttC l)∧RowK w_ none 0 (sttK (l2.take 0))∧At w_ g4 37 2 (stV none 0 0 none 0 0)∧Below w.heap.size w w_) ⟨HS.o,HRN.o,RowK.nil _,HQ.o,HB.o⟩;clear HS HR HQ HB HRN;go_wp2_with fail;go_loopw [9] (fun iv wr=>∃(k:Nat),k≤n2∧iv=.int .i64 k∧Hid (∃A4 m4 c4,At wr g5 37 2 (stV A3 m c3 A4 m4 c4)∧RowC wr A3 m (sttC l)∧RowK wr A4 m4 (sttK (l2.take k))∧At wr g4 37 2 (stV none 0 0 none 0 0)∧Below w.heap.size w wr)) (fun iv _=>n2 - (intOf iv).toNat)
   case atStart=>exact⟨0,Nat.zero_le _,rfl,kp ⟨none,0,0,HI0.o⟩⟩
   case round =>
    obtain⟨k2,hk2,rfl,hI⟩:=hrel;clear HI0;obtain⟨A4,m4,c4,hs_,hr_,hr2_,hq_,y_⟩:=hI.o;have HS:=kp hs_;have HR:=kp hr_;have HR2:=kp hr2_;have HQ:=kp hq_;have HB:=kp y_;clear hI hs_ hr_ hr2_ hq_ y_;rename World=>w_;by_cases hlt2:k2 < n2
    ·obtain⟨b,off,a,rfl,hbl,ha,hcc,hok⟩:=HH2.o.at_ hlt2;have HGD:=kp (sttK_good (l2.take k2) (fun x hx=>HH2.o.2.2 x (List.mem_of_mem_take hx)) [] GoodK.nil);obtain⟨⟨L,s,hr⟩,-⟩:=HGD.o;have HSN:=kq (sttK (l2.take (k2+1))=(rputK (sttK (l2.take k2)) a.1 (a.2.2,a.2.1)).1) (by rw[take_snoc ha,sttK_snoc]);have HRP:=kp (fun w' (h':RowK w' A4 m4 (sttK (l2.take k2)))=>rput21_any (c:=c4) a.1 (a.2.2,a.2.1) w' h' hok.1 ⟨hok.2.2,hok.2.1⟩ (by rw[← h'.2.2];have:=RelK.lenX hr;have:=hr.len;unfold sttK at *;omega) (by have:=RelK.amt hr;have:=hr.max;unfold sttK at *;omega));have BE:=kp (bt_atKs hok.1 hok.2.1 hok.2.2);have HPC:=kp (ptV_cl hok.1);have HVC:=kp (coinV_cl hok.2.2);have HIC:=kp (aidV_cl hok.2.1);have HBL:=kp hbl;have HM1:=kp (fun w' (hb:Below w.heap.size w w')=>show ∀j u,(ptV a.1)[j]? = some u→w'.cell? ⟨b,off+k2*98+j,none⟩=some u from fun j u hu=>bcell hb (hcc j u (heldV_pt hu)));have HM3:=kp (fun w' (hb:Below w.heap.size w w')=>show ∀j u,(a.2.1.map B)[j]? = some u→w'.cell? ⟨b,off+k2*98+33+j,none⟩=some u from fun j u hu=>bcell hb (by have:=hcc (33+j) u (heldV_id hok hu);rwa [← Nat.add_assoc]at this));have HM2:=kp (fun w' (hb:Below w.heap.size w w')=>show ∀j u,(coinV a.2.2)[j]? = some u→w'.cell? ⟨b,off+k2*98+65+j,none⟩=some u from fun j u hu=>bcell hb (by have:=hcc (65+j) u (heldV_coin hok hu);rwa [← Nat.add_assoc]at this));obtain⟨es,hes⟩:=xe (ptV a.1);obtain⟨vs,hvs⟩:=xe (coinV a.2.2);obtain⟨is,his⟩:=xe (a.2.1.map B);obtain⟨ats,hats⟩:=xe (encAtK (a.1,(a.2.2,a.2.1)));obtain⟨RS,hRS⟩:=xe (rputK (sttK (l2.take k2)) a.1 (a.2.2,a.2.1));rw[← hats]at BE HRP;rw[← hes]at HPC HM1 BE;rw[← hvs]at HVC HM2 BE;rw[← his]at HIC HM3 BE;rw[← hRS]at HSN HRP;obtain⟨Xk,hXk⟩:=xe (sttK (l2.take k2));rw[← hXk]at HR2 HRP;clear hbl ha hcc hok hr HGD hes hvs his hats hRS hXk;obtain⟨Xn,rc⟩:=RS;go_wp2_with fail;try go_wp2_with fail
     repeat' (first|(with_reducible refine wpp (id:=10) Grow [0,2,0,0,0,0,2,0,0,0,0,2,0,0,0,0,2,0,3,0,0,0,0,0] (.get 0 (.get 1 (.get 2 (.get 3 (.get 4 (.get 5 (.get 6 (.get 7 (.get 8 (.get 9 (.get 10 (.get 11 (.get 12 (.get 13 (.get 14 (.get 15 (.get 16 (.get 17 (.act 18 (.get 19 (.get 20 (.get 21 (.get 22 (.get 23 .done)))))))))))))))))))))))) Grow.refl Grow.trans ?_)|go_values|go_skip|go_guarded|go_step|go_upon|go_back)
     intro w_ hd_;have y_:=hd_.grow;replace HB:=kp (HB.o.grow' y_);replace HS:=kp (HS.o.grow y_);replace HR:=kp (HR.o.grow y_);replace HR2:=kp (HR2.o.grow y_);replace HQ:=kp (HQ.o.grow y_);clear y_ hd_;replace HM1:=kp (HM1.o _ HB.o);replace HM2:=kp (HM2.o _ HB.o);replace HM3:=kp (HM3.o _ HB.o);replace HBL:=kq (b < w_.heap.size) (Nat.lt_of_lt_of_le HBL.o HB.o.size);have c0:=HS.o.blk.at_ (i:=1) rfl;repeat (first|(refine plc (fun K hK=>?_);go_simp;refine hK _ _ ?_;clear hK K)|(refine pls (fun K hK=>?_);go_simp;refine hK _ _ ?_;clear hK K)|(refine psa (fun K hK=>?_);go_simp;refine hK _ _ ?_;clear hK K)|(refine pl_load rfl rfl (by first|exact wanted_none rfl|(go_simp;done)|rfl) rfl (by first|rfl|(go_simp;rfl)) (by kernel_rfl) (by first|exact c0) (fun K hK=>?_);go_simp;refine hK _ _ ?_;clear hK K)|(refine pl_loadnow rfl rfl (by first|exact wanted_none rfl|(go_simp;done)|rfl) rfl (by first|rfl|(go_simp;rfl)) (by kernel_rfl) (by first|exact c0) (fun K hK=>?_);go_simp;refine hK _ _ ?_;clear hK K))
     refine pl_loadm rfl (by decide) (by exact wanted_none rfl) rfl row_point HM1.o HBL.o (by first|rfl|(go_simp;done)|rfl) HPC.o.len (fun K hK=>?_);go_simp;refine hK _ _ ?_;clear hK K;repeat ((first|refine plc (fun K hK=>?_)|refine pls (fun K hK=>?_)|refine psa (fun K hK=>?_));go_simp;refine hK _ _ ?_;clear hK K)
     refine pl_loadm rfl (by decide) (by exact wanted_none rfl) rfl row_idk HM3.o HBL.o (by first|rfl|(go_simp;done)|rfl) HIC.o.len (fun K hK=>?_);go_simp;refine hK _ _ ?_;clear hK K;repeat ((first|refine plc (fun K hK=>?_)|refine pls (fun K hK=>?_)|refine psa (fun K hK=>?_));go_simp;refine hK _ _ ?_;clear hK K)
     refine pl_loadm rfl (by decide) (by exact wanted_none rfl) rfl row_coin HM2.o HBL.o (by first|rfl|(go_simp;done)|rfl) HVC.o.len (fun K hK=>?_);go_simp;refine hK _ _ ?_;clear hK K;repeat ((first|refine plc (fun K hK=>?_)|refine pls (fun K hK=>?_)|refine psa (fun K hK=>?_));go_simp;refine hK _ _ ?_;clear hK K)
     refine pl_calm rfl rfl (by exact wanted_none rfl) (fun w_=>by exact exec_build rfl BE.o w_) (fun K hK=>?_);go_simp;refine hK _ _ ?_;clear hK K;clear c0 HM1 HM2 HM3 HBL;refine pl_act rfl (by first|exact wanted_none rfl|(go_simp;done)|rfl) (fun K hK=>?_);go_wp2_with fail;refine(HRP.o w_ HR2.o).mono ?_;rintro e v_ ⟨A9,m9,c9,rfl,hx9,y_⟩;have HX9:=kp hx9;go_wp2_with fail;refine hK _ _ (fun h=>by cases h) ?_;clear hK K hx9 HR2;replace HS:=kp (HS.o.grow y_);replace HR:=kp (HR.o.grow y_);replace HQ:=kp (HQ.o.grow y_);replace HB:=kp (HB.o.grow' y_);clear y_;try clear w_
     rename World=>w_;repeat ((first|refine plc (fun K hK=>?_)|refine pls (fun K hK=>?_)|refine psa (fun K hK=>?_));go_simp;refine hK _ _ ?_;clear hK K)
     refine pl_done ?_;go_wp2_with (first|(refine wpl_store1 (o:=⟨none,.store _ _ _,_,_,_,_⟩) rfl rfl HS.o.blk rfl rfl (by kernel_rfl) rfl rfl (by have:=HS.o.len;omega) ?_));intro v_ b_ g_ s_;have HX_:=kp (HX9.o.off2 HS.o g_);have HR_:=kp (HR.o.off2 HS.o g_);have HS_:=kq (At v_ g5 37 2 (stV A3 m c3 A9 m9 c9)) ⟨b_,rfl⟩;have HQ_:=kp (At.off HQ.o g_ HS_HQ.o);have HB_:=kp (put_below HB.o HS_g.o g_);clear b_ g_ s_ HX9 HS HQ HB HR;go_wp2_with fail;go_roundw
     case rel=>exact⟨k2+1,by omega,by go_num,kp ⟨A9,m9,c9,HS_.o,HR_.o,by rw[HSN.o];exact HX_.o,HQ_.o,HB_.o⟩⟩
     case measure=>simp [intOf];omega
    ·obtain rfl:k2=n2:=by omega
     have HRN:=kq (RowK w_ A4 m4 (sttK l2)) (by have h:=HR2.o;rw[List.take_of_length_le (by have:=HH2.o.1;omega)]at h;exact h);have HC1:=kp (stV_cl (A:=A3) (n:=m) (c:=c3) (A2:=A4) (n2:=m4) (c2:=c4));go_wp2_with (with_reducible first|refine wlb 66 row_state HS.o.blk HS.o.len ?_|refine wsb row_state HQ.o.blk HQ.o.len HC1.o.len HC1.o.one ?_);intro v_ b_ g_ s_;have HRF:=kp (HR.o.off2 HQ.o g_);have HKF:=kp (HRN.o.off2 HQ.o g_);have HB_:=kp (put_below HB.o HQ_g.o g_);have HQ_:=kp (at_mk b_ HC1.o.len);clear b_ g_ s_;go_wp2_with fail;refine ret_cell rfl row_state HQ_.o.blk rfl HQ_.o.len rfl ?_;exact⟨A3,m,c3,A4,m4,c4,rfl,HRF.o,HKF.o,HB_.o⟩
end Go.Proofs.YtnnjjbkdjkjnpaaGreatDoor

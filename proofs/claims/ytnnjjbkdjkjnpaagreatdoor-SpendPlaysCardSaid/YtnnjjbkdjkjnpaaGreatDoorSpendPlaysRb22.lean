/- The document's locks: a row of outputs with locks;its sum. -/
import Derived.Test.YtnnjjbkdjkjnpaaGreatDoorSpendPlaysRb21
set_option linter.unusedSimpArgs false
set_option linter.unusedVariables false
set_option maxRecDepth 100000
set_option maxHeartbeats 16000000
namespace Go.Proofs.YtnnjjbkdjkjnpaaGreatDoor
open Go.RowKit
def refV(x:LockV):List Value:=x.2.map B++coinV x.1
theorem refV_length{x:LockV}(h:LockOK x):(refV x).length=65:=by unfold refV;rw[List.length_append,List.length_map,h.2,coinV_length h.1]
theorem refV_one(x:LockV):∀u∈refV x,u.oneCell'=true:=fun u hu=>by
 unfold refV at hu;rcases List.mem_append.1 hu with h|h
 ·exact mapB_one _ u h
 ·exact coinV_one _ u h
def encAtK(e:PtK×LockV):List Value:=ptV e.1++refV e.2
def AtOKK(e:PtK×LockV):Prop:=PtOK e.1∧LockOK e.2
theorem encAtK_len{e:PtK×LockV}(h:AtOKK e):(encAtK e).length=98:=by unfold encAtK;rw[List.length_append,ptV_length h.1.1,refV_length h.2]
def RowK(w:World)(A:Option Addr)(n:Nat)(l:LocksL):Prop:=Sl w w.heap.size 98 A n (l.flatMap encAtK)∧(∀e∈l,AtOKK e)∧l.length=n
theorem RowK.call{w w':World}{A:Option Addr}{n:Nat}{l:LocksL}(h:RowK w A n l)(hb:Below w.heap.size w w'):RowK w' A n l:=⟨(h.1.below hb).more hb.size,h.2⟩
theorem RowK.at_ {w : World} {A : Option Addr} {n : Nat} {l : LocksL} (h : RowK w A n l) {k : Nat} (hk : k < n) :
  ∃b off e,A=some ⟨b,off,none⟩∧b < w.heap.size∧l[k]? = some e∧AtOKK e∧∀j u,(encAtK e)[j]? = some u→w.cell? ⟨b,off+k*98+j,none⟩=some u:=by
 obtain⟨hs,ho,hl⟩:=h;obtain⟨b,off,e,hb,hc⟩:=hs.2 (by omega);have hk2:k < l.length:=by omega
 refine⟨b,off,l[k],e,hb,List.getElem?_eq_getElem hk2,ho _ (List.getElem_mem hk2),fun j u hu=>?_⟩;have h2:=hc (k*98+j) u (fm_at3 encAtK 98 l k j _ u (fun y hy=>encAtK_len (ho y hy)) (List.getElem?_eq_getElem hk2) hu);rw[← Nat.add_assoc]at h2;exact h2
theorem encAtK_amt{e:PtK×LockV}(h:AtOKK e):(encAtK e)[97]? = some (.int .u64 e.2.1.2):=by
 have h1:=ptV_length h.1.1;have h2:(e.2.2.map B).length=32:=by rw[List.length_map,h.2.2]
 unfold encAtK;rw[List.getElem?_append_right (by omega),h1];unfold refV;rw[List.getElem?_append_right (by omega),h2];unfold coinV;rw[List.getElem?_append_right (by simp [h.2.1.1])];simp [h.2.1.1]
def amtK(l:LocksL):Int:=(l.map fun e=>e.2.1.2).sum
theorem amtK_snoc{l:LocksL}{k:Nat}{e:PtK×LockV}(h:l[k]? = some e):amtK (l.take (k+1))=amtK (l.take k)+e.2.1.2:=by
 unfold amtK;rw[List.take_add_one,h,List.map_append,List.sum_append_int];simp
theorem amtK_nn:∀{l:LocksL},(∀e∈l,AtOKK e)→0≤amtK l
 |[],_=>by simp [amtK]
 | e::l,h=>by
  have h1:=amtK_nn (l:=l) (fun x hx=>h x (List.mem_cons_of_mem _ hx));have h2:=(h e (List.mem_cons_self ..)).2.1.2.1;unfold amtK at h1 ⊢;rw[List.map_cons,List.sum_cons];omega
theorem amtK_le{l:LocksL}(h:∀e∈l,AtOKK e)(k:Nat):amtK (l.take k)≤amtK l:=by
 have h1:=amtK_nn (l:=l.drop k) (fun x hx=>h x (List.mem_of_mem_drop hx))
 have h2:amtK l=amtK (l.take k)+amtK (l.drop k):=by
  unfold amtK;rw[← List.sum_append_int,← List.map_append,List.take_append_drop]
 omega
theorem rsum21_any {A : Option Addr} {n c : Nat} {l : LocksL} (w : World) (h : RowK w A n l) (hn : n ≤ 1000000) (hs : amtK l ≤ 18446744073709551615) :
  Calls Tryz.prog 63 #[.slice A n c] w fun e w'=>e=.returned (.int .u64 (amtK l))∧w=w':=by
 have HH:=kp h;have HN:=kp (fun k=>amtK_nn (l:=l.take k) (fun x hx=>h.2.1 x (List.mem_of_mem_take hx)));have HL:=kp (fun k=>amtK_le h.2.1 k);clear h
 go_enter Tryz.func63,Tryz.ntmps63
 go_wp2_with fail;go_loopw [3,4] (fun s3 iv wr=>∃k:Nat,k≤n∧iv=.int .i64 k∧s3=.int .u64 (amtK (l.take k))∧Hid (w=wr)) (fun _ iv _=>n - (intOf iv).toNat)
 case atStart=>exact⟨0,by omega,rfl,rfl,kp rfl⟩
 case round =>
  obtain⟨k,hk,rfl,rfl,hI⟩:=hrel;obtain rfl:=hI.o;by_cases hlt:k < n
  ·obtain⟨b,off,e,rfl,_,he,hok,hc⟩:=HH.o.at_ hlt;have c1:=hc 97 _ (encAtK_amt hok);have h1:=HN.o (k+1);have h2:=HL.o (k+1);have HSN:=kp (amtK_snoc he);rw[HSN.o]at h1 h2;have v1:IntKind.u64.wrap (amtK (l.take k)+e.2.1.2)=amtK (l.take k)+e.2.1.2:=u64_in _ ⟨by omega,by omega⟩;clear he hok hc;obtain⟨sk,hsk⟩:=xe (amtK (l.take k));rw[← hsk]at HSN h1 h2 v1 ⊢;clear hsk;go_wp2_with fail;go_roundw
   case rel=>exact⟨k+1,by omega,by go_num,by rw[HSN.o],kp (by first|trivial|rfl)⟩
   case measure=>simp [intOf];omega
  ·obtain rfl:k=n:=by omega
   have HE:=kq (l.take k=l) (List.take_of_length_le (by rw[HH.o.2.2];exact Nat.le_refl _));rw[HE.o];go_wp2_with fail;go_ret
   exact⟨rfl,rfl⟩
theorem encAtK_pt{e:PtK×LockV}(h:AtOKK e){j:Nat}{u:Value}(hu:(ptV e.1)[j]? = some u):(encAtK e)[0+j]? = some u:=by
 unfold encAtK;rw[Nat.zero_add,List.getElem?_append_left (List.getElem?_eq_some_iff.1 hu).1];exact hu
theorem encAtK_ref{e:PtK×LockV}(h:AtOKK e){j:Nat}{u:Value}(hu:(refV e.2)[j]? = some u):(encAtK e)[33+j]? = some u:=by
 have h1:=ptV_length h.1.1;unfold encAtK;rw[List.getElem?_append_right (by omega),h1,show 33+j - 33=j by omega];exact hu
theorem lookL_first{l:LocksL}{p:PtK}{k:Nat}{e:PtK×LockV}(he:l[k]? = some e)(hp:e.1=p)(hn:∀x∈l.take k,x.1≠p):lookL l p=some e.2:=by
 have h1:l=l.take k++e::l.drop (k+1):=by
  have hk:=(List.getElem?_eq_some_iff.1 he).1;have h2:=List.take_append_drop k l;rw[List.drop_eq_getElem_cons hk,(List.getElem?_eq_some_iff.1 he).2]at h2;exact h2.symm
 unfold lookL;rw[h1,List.find?_append,List.find?_eq_none.2 (fun x hx=>by simpa using hn x hx),List.find?_cons_of_pos (by simpa using hp)]
 rfl
theorem lookL_not{l:LocksL}{p:PtK}(hn:∀x∈l,x.1≠p):lookL l p=none:=by
 unfold lookL;rw[List.find?_eq_none.2 (fun e he=>by simpa using hn e he)];rfl
theorem row_at21:RowT Tryz.prog 82 98:=⟨_,Tryz.underlying82,by kernel_rfl,by kernel_rfl⟩
def noAtK:PtK×LockV:=(pt 0,noLock)
theorem ptz_ok:PtOK (pt 0):=⟨by simp [pt],by decide⟩
theorem noAtK_ok:AtOKK noAtK:=⟨ptz_ok,noLock_ok⟩
theorem encAtK_one(e:PtK×LockV):∀u∈encAtK e,u.oneCell'=true:=fun u hu=>by
 unfold encAtK at hu;rcases List.mem_append.1 hu with h|h
 ·unfold ptV at h;rcases List.mem_append.1 h with h|h
  ·exact mapB_one _ u h
  ·rw[List.mem_singleton]at h;subst h;rfl
 ·exact refV_one e.2 u h
theorem zero_atK:(Tryz.prog.info? 82).map (·.zero)=some (some (.agg (encAtK noAtK).toArray)):=by kernel_rfl
theorem built_atK0:Tryz.prog.built 82 []=some (encAtK noAtK).toArray:=by kernel_rfl
def getK(l:LocksL)(p:PtK):PtK×LockV:=match lookL l p with|some x=>(p,x)|none=>noAtK
theorem getK_ok{l:LocksL}{p:PtK}(hp:PtOK p)(h:∀e∈l,AtOKK e):AtOKK (getK l p):=by
 unfold getK;cases hl:lookL l p with
 | none=>exact noAtK_ok
 | some x =>
  obtain⟨e,he,rfl⟩:=Option.map_eq_some_iff.1 (show(l.find? (fun e=>e.1 == p)).map (·.2)=some x from hl);exact⟨hp,(h e (List.mem_of_find?_eq_some he)).2⟩
theorem rget21_any {A : Option Addr} {n c : Nat} {l : LocksL} (p : PtK) (w : World) (h : RowK w A n l) (hp : PtOK p) (hn : n ≤ 1000000) :
  Calls Tryz.prog 60 #[.slice A n c,ptA p] w fun e w'=>e=.returned (.tuple #[.agg (encAtK (getK l p)).toArray,.bool (lookL l p).isSome])∧Below w.heap.size w w':=by
 have HH:=kp h;have HP:=kp hp;have HX:=kp (ptV_length hp.1);clear h hp;rw[ptA];obtain⟨xs,hxs⟩:=xe (ptV p);have HXE:=kp hxs;rw[← hxs]at HX ⊢;clear hxs;obtain⟨z,hz⟩:=xe w.heap.size;have HZ:=kp hz;clear hz
 go_enter Tryz.func60,Tryz.ntmps60
 go_wp2_with (with_reducible first|refine wpl_box (o:=⟨some 3,_,_,_,_,_⟩) rfl rfl rfl ?_);intro w1 hb1 hbw1 hsz1;rw[← HZ.o]at hb1 hbw1 hsz1 ⊢;go_wp2_with (with_reducible first|refine wpl_alloc (o:=⟨some 4,_,_,_,_,_⟩) rfl rfl zero_atK ?_);intro w2 hb2 hbw2 hsz2;have HB1:=kp (hb1.below hbw2 (by omega));have HB2:=kp hb2;have HBW:=kp (hbw1.trans (hbw2.mono (by omega)));clear hb1 hb2 hbw1 hbw2 hsz1 hsz2;go_wp2_with fail;go_loopw [6] (fun iv wr=>∃k:Nat,k≤n∧iv=.int .i64 k∧Hid ((∀x∈l.take k,x.1≠p)∧Blk wr z 69 xs∧Blk wr (z+1) 82 (encAtK noAtK)∧Below z w wr)) (fun iv _=>n - (intOf iv).toNat)
 case atStart=>exact⟨0,by omega,rfl,kp ⟨by simp,HB1.o,HB2.o,HBW.o⟩⟩
 case round =>
  obtain⟨k,hk,rfl,hI⟩:=hrel;clear HB1 HB2 HBW;have HT:=kp hI.o.1;have HB1:=kp hI.o.2.1;have HB2:=kp hI.o.2.2.1;have HB:=kp hI.o.2.2.2;clear hI;by_cases hlt:k < n
  ·have HR:=kq (RowK wr A n l) (HH.o.call (by rw[← HZ.o];exact HB.o));obtain⟨b,off,e,rfl,_,he,hok,hc⟩:=HR.o.at_ hlt;have HE:=kp he;have HOK:=kp hok;have HC:=kp hc;have HCP:=kp (fun j u (hu:(ptV e.1)[j]? = some u)=>hc (0+j) u (encAtK_pt hok hu));have HEL:=kp (ptV_length hok.1.1);have HQ:=kp (eql_pt e.1 p hok.1 HP.o);rw[← HXE.o]at HQ;obtain⟨r,hr⟩:=xe (decide (e.1=p));rw[← hr]at HQ;have HRR:=kp hr;obtain⟨es,hes⟩:=xe (ptV e.1);rw[← hes]at HCP HEL HQ;clear he hok hc hr hes;go_wp2_with fail;repeat' (first|(with_reducible refine wp_phase (id:=4) (fun(_:Nat) w'=>Below wr.heap.size wr w') [] [(0,0),(0,0),(0,0),(0,0),(0,0),(0,0),(0,0)] (by kernel_rfl) (by kernel_rfl) ?_ ?_)|go_values|go_skip|go_guarded|go_step|go_upon|go_back)
   ·exact Drawn.all (Drawn.one wr)
   refine ph_value rfl (by first|rfl|go_simp) (fun k_ _ _ w_ hC_=>by first|(go_simp;rfl)|(go_simp;done)|rfl) (fun K hK=>?_);go_simp;refine hK _ ?_;clear hK K;refine ph_value rfl (by first|rfl|go_simp) (fun k_ _ _ w_ hC_=>by first|(go_simp;rfl)|(go_simp;done)|rfl) (fun K hK=>?_);go_simp;refine hK _ ?_;clear hK K;refine ph_value rfl (by first|rfl|go_simp) (fun k_ _ _ w_ hC_=>by first|(go_simp;rfl)|(go_simp;done)|rfl) (fun K hK=>?_);go_simp;refine hK _ ?_;clear hK K;refine ph_value rfl (by first|rfl|go_simp) (fun k_ _ _ w_ hC_=>by first|(go_simp;rfl)|(go_simp;done)|rfl) (fun K hK=>?_);go_simp;refine hK _ ?_;clear hK K;refine ph_loadmk rfl rfl rfl row_point (fun k _ _ w h j u hu=>bcell h (by have:=HCP.o j u hu;rwa [Nat.zero_add]at this)) (by first|rfl|(go_simp;done)) HEL.o ?_
   (intro K hK;go_simp;refine hK _ ?_;clear hK K)
   refine ph_load rfl rfl rfl row_point (fun k _ _ w h=>HB1.o.call h) rfl HX.o ?_
   (intro K hK;go_simp;refine hK _ ?_;clear hK K)
   have heq:=HQ.o;refine ph_value rfl (by first|rfl|go_simp) (fun k_ _ _ w_ hC_=>by first|(go_simp;rfl)|(go_simp;done)|rfl) (fun K hK=>?_);go_simp;refine hK _ ?_;clear hK K;refine ph_nil ?_;intro w3 hl3;have HB1':=kp (HB1.o.call hl3);have HB2':=kp (HB2.o.call hl3);have HB3:=kp (HB.o.trans (hl3.mono (by rw[HZ.o];exact HB.o.size)));have HC3:=kp (fun j u (hu:(encAtK e)[j]? = some u)=>bcell hl3 (HC.o j u hu));clear hl3 HB1 HB2 HB;cases r with
   | false =>
    have HT2:=kp (show ∀x∈l.take (k+1),x.1≠p from fun x hx=>by
     rw[List.take_add_one,HE.o]at hx;rcases List.mem_append.1 hx with hx|hx
     ·exact HT.o x hx
     ·have:x=e:=by simpa using hx
      rw[this];exact of_decide_eq_false HRR.o.symm)
    go_wp2_with fail;go_roundw
    case rel=>exact⟨k+1,by omega,by go_num,kp ⟨HT2.o,HB1'.o,HB2'.o,HB3.o⟩⟩
    case measure=>simp [intOf];omega
   | true =>
    have HLC:=kp (lookL_first HE.o (of_decide_eq_true HRR.o.symm) HT.o);have HGE:=kq (encAtK (getK l p)=encAtK e) (by unfold getK;rw[HLC.o];rw[← of_decide_eq_true HRR.o.symm]);have HCC:=kp (fun j u (hu:(encAtK e)[j]? = some u)=>(HC3.o j u hu:w3.cell? ⟨b,off+k*98+j,none⟩=some u));have HCL:=kp (encAtK_len HOK.o);have HC1:=kp (encAtK_one e);have HZL:=kp (encAtK_len noAtK_ok);obtain⟨cs,hcs⟩:=xe (encAtK e);have HCS:=kp hcs;rw[← hcs]at HCC HCL HC1;clear heq hcs;go_wp2_with (with_reducible first|refine wlm 23 row_at21 HCC.o HCL.o ?_|refine wsb row_at21 HB2'.o HZL.o HCL.o HC1.o ?_);intro w4 hb4 hg4 hs4;have H4:=kp hb4;have HB4:=kp (HB3.o.grown hg4 (by rw[HZ.o];exact HB3.o.size) (fun q hq=>by cases hq;omega));clear hb4 hg4 hs4;go_wp2_with fail;refine ret_cell_tmp rfl row_at21 H4.o rfl HCL.o rfl rfl ?_;exact⟨by rw[HGE.o,HLC.o,HCS.o];rfl,by rw[← HZ.o];exact HB4.o⟩
  ·obtain rfl:k=n:=by omega
   have HLC:=kp (lookL_not (l:=l) (p:=p) (by have h1:=HT.o;rw[List.take_of_length_le (by rw[HH.o.2.2];exact Nat.le_refl _)] at h1;exact h1));have HGE:=kq (encAtK (getK l p)=encAtK noAtK) (by unfold getK;rw[HLC.o]);have HCL:=kp (encAtK_len noAtK_ok);have HC1:=kp (encAtK_one noAtK);have HBT:=kp built_atK0;obtain⟨cs,hcs⟩:=xe (encAtK noAtK);have HCS:=kp hcs;rw[← hcs]at HCL HC1 HBT HB2;clear hcs;go_wp2_with (first|(refine wpl_build (o:=⟨some 24,_,_,_,_,_⟩) rfl rfl HBT.o ?_)|(with_reducible refine wsb row_at21 HB2.o HCL.o HCL.o HC1.o ?_));intro w4 hb4 hg4 hs4;have H4:=kp hb4;have HB4:=kp (HB.o.grown hg4 (by rw[HZ.o];exact HB.o.size) (fun q hq=>by cases hq;omega));clear hb4 hg4 hs4;go_wp2_with fail;refine ret_cell_tmp rfl row_at21 H4.o rfl HCL.o rfl rfl ?_;exact⟨by rw[HGE.o,HLC.o,HCS.o];rfl,by rw[← HZ.o];exact HB4.o⟩
open Go.RowKit Go.Maps Go.Sort Go.Shelf
def insK(p:PtK)(c:LockV):LocksL→LocksL
 |[]=>[(p,c)]
 | e::r=>if cmpP p e.1 < 0 then(p,c)::e::r else e::insK p c r
def rputK(X:LocksL)(p:PtK)(c:LockV):LocksL×Int:=
 if p.2 < 0∨16≤p.2∨c.1.2=0∨4611686018427387904 < c.1.2 then(X,5) else if(lookL X p).isSome then(X,24) else if 64≤X.length then(X,18) else if 4611686018427387904 - c.1.2 < amtK X then(X,6) else(insK p c X,0)
def cutK(X:LocksL)(p:PtK):LocksL:=X.filter (fun e=>!(e.1 == p))
def SortK(X:LocksL):Prop:=X.Pairwise (fun a b=>cmpP a.1 b.1 < 0)
theorem insK_done{p:PtK}{c:LockV}:∀{Y Z:LocksL},(∃e∈Y,cmpP p e.1 < 0)→insK p c (Y++Z)=insK p c Y++Z
 |[],_,h=>by obtain⟨e,he,_⟩:=h;cases he
 | y::Y,Z,h=>by
  unfold insK;rw[List.cons_append];show(if cmpP p y.1 < 0 then(p,c)::y::(Y++Z) else y::insK p c (Y++Z))=_
  by_cases hy:cmpP p y.1 < 0
  ·rw[if_pos hy,if_pos hy];rfl
  ·rw[if_neg hy,if_neg hy]
   rw[insK_done (Y:=Y) (by
    obtain⟨e,he,h2⟩:=h;rcases List.mem_cons.1 he with rfl|he
    ·exact absurd h2 hy
    ·exact⟨e,he,h2⟩)]
   rfl
theorem insK_not{p:PtK}{c:LockV}:∀{Y Z:LocksL},(∀e∈Y,¬ cmpP p e.1 < 0)→insK p c (Y++Z)=Y++insK p c Z
 |[],_,_=>rfl
 | y::Y,Z,h=>by
  rw[List.cons_append,insK,if_neg (h y (List.mem_cons_self ..)),insK_not (fun e he=>h e (List.mem_cons_of_mem _ he))]
  rfl
theorem insK_perm(p:PtK)(c:LockV):∀X:LocksL,(insK p c X).Perm ((p,c)::X)
 |[]=>.refl _
 | e::r=>by
  unfold insK;by_cases h:cmpP p e.1 < 0
  ·rw[if_pos h]
  ·rw[if_neg h];exact((insK_perm p c r).cons e).trans (List.Perm.swap _ _ _)
theorem insK_sort{p:PtK}{c:LockV}:∀{X:LocksL},SortK X→(∀e∈X,e.1≠p)→SortK (insK p c X)
 |[],_,_=>by unfold SortK insK;simp
 | e::r,h,hn=>by
  unfold SortK at h;rw[List.pairwise_cons]at h;unfold insK;by_cases hp:cmpP p e.1 < 0
  ·rw[if_pos hp];unfold SortK;rw[List.pairwise_cons,List.pairwise_cons];refine⟨fun x hx=>?_,h⟩;rcases List.mem_cons.1 hx with rfl|hx
   ·exact hp
   ·exact cmpP_lt_trans hp (h.1 x hx)
  ·rw[if_neg hp];unfold SortK;rw[List.pairwise_cons];refine⟨fun x hx=>?_,insK_sort h.2 (fun y hy=>hn y (List.mem_cons_of_mem _ hy))⟩;rcases List.mem_cons.1 ((insK_perm p c r).mem_iff.1 hx) with rfl|hx
   ·have h1:=cmpP_neg p e.1;have h2:=cmpP_zero p e.1;have h3:cmpP p e.1≠0:=fun h0=>hn e (List.mem_cons_self ..) (h2.1 h0).symm
    show cmpP e.1 p < 0
    omega
   ·exact h.1 x hx
theorem lookL_eq{L:LocksL}(hd:(L.map (·.1)).Nodup){e:PtK×LockV}(he:e∈L):lookL L e.1=some e.2:=by
 obtain⟨k,hk⟩:=List.mem_iff_getElem?.1 he;refine lookL_first hk rfl fun x hx hxe=>?_
 obtain⟨j,hj⟩:=List.mem_iff_getElem?.1 hx;have hkk:=(List.getElem?_eq_some_iff.1 hk).1;have hjl:=(List.getElem?_eq_some_iff.1 hj).1;rw[List.length_take]at hjl;have hj2:L[j]? = some x:=by rw[List.getElem?_take,if_pos (by omega)]at hj;exact hj
 have h1:(L.map (·.1))[j]? = some e.1:=by rw[List.getElem?_map,hj2];simp [hxe]
 have h2:(L.map (·.1))[k]? = some e.1:=by rw[List.getElem?_map,hk];rfl
 have:=(List.getElem?_inj (by rw[List.length_map];omega) hd).1 (h1.trans h2.symm);omega
theorem lookL_perm{X L:LocksL}(h:X.Perm L)(hd:(L.map (·.1)).Nodup)(p:PtK):lookL X p=lookL L p:=by
 have hdX:(X.map (·.1)).Nodup:=(h.map (·.1)).nodup_iff.2 hd;by_cases hp:∃e∈L,e.1=p
 ·obtain⟨e,he,rfl⟩:=hp;rw[lookL_eq hd he,lookL_eq hdX (h.mem_iff.2 he)]
 ·rw[lookL_not (fun x hx hxp=>hp ⟨x,hx,hxp⟩),lookL_not (fun x hx hxp=>hp ⟨x,h.mem_iff.1 hx,hxp⟩)]
theorem amtK_perm{X L:LocksL}(h:X.Perm L):amtK X=amtK L:=by
 unfold amtK;have:=h.map (fun e:PtK×LockV=>e.2.1.2);exact this.foldr_eq' (f:=(·+·)) (fun x _ y _ z=>by omega) 0
theorem amtK_app(X Y:LocksL):amtK (X++Y)=amtK X+amtK Y:=by unfold amtK;rw[List.map_append,List.sum_append_int]
theorem amtK_one(e:PtK×LockV):amtK [e]=e.2.1.2:=by unfold amtK;simp
def IxOKK(l:LocksL):Prop:=∀e∈l,0≤e.1.2∧e.1.2≤15
structure RelK (X L:LocksL) (s:Int):Prop where
 perm:X.Perm L
 sort:SortK X
 ok:LKOK L
 sum:s=amtK L
 max:s≤4611686018427387904
 len:L.length≤64
 ix:IxOKK L
theorem RelK.nil:RelK [] [] 0:=⟨.refl _,List.Pairwise.nil,⟨by simp,by simp⟩,rfl,by omega,by simp,by unfold IxOKK;simp⟩
theorem RelK.ixX{X L:LocksL}{s:Int}(h:RelK X L s):IxOKK X:=fun e he=>h.ix e (h.perm.mem_iff.1 he)
theorem RelK.okX{X L:LocksL}{s:Int}(h:RelK X L s):∀e∈X,AtOKK e:=fun e he=>h.ok.1 e (h.perm.mem_iff.1 he)
theorem RelK.nn{X L:LocksL}{s:Int}(h:RelK X L s):0≤s:=by rw[h.sum];exact amtK_nn (fun e he=>h.ok.1 e he)
theorem RelK.amt{X L:LocksL}{s:Int}(h:RelK X L s):amtK X=s:=by rw[h.sum];exact amtK_perm h.perm
theorem RelK.look{X L:LocksL}{s:Int}(h:RelK X L s)(p:PtK):lookL X p=lookL L p:=lookL_perm h.perm h.ok.2 p
theorem RelK.lenX{X L:LocksL}{s:Int}(h:RelK X L s):X.length=L.length:=h.perm.length_eq
theorem RelK.code{X L:LocksL}{s:Int}(h:RelK X L s)(p:PtK)(c:LockV)(hc:LockOK c):(rputK X p c).2=putQ L s p c.1:=by
 have h1:=h.nn;have h2:=h.max;unfold rputK putQ;rw[h.look,h.lenX,h.amt];unfold addE;have:=hc.1.2.1;split
 ·rfl
 ·split
  ·rfl
  ·split
   ·rfl
   ·split
    ·rw[if_neg (by omega)]
    ·rw[if_pos (by omega)]
theorem RelK.put{X L:LocksL}{s:Int}(h:RelK X L s){p:PtK}{c:LockV}(hp:PtOK p)(hc:LockOK c)(h0:putQ L s p c.1=0):RelK (rputK X p c).1 (L++[(p,c)]) (addE s c.1.2).1:=by
 have h1:=h.nn;have h2:=h.max;have h3:=hc.1.2.1;have hk:=h.look p;have hlx:=h.lenX;have ham:=h.amt;unfold putQ at h0;split at h0
 ·omega
 ·rename_i hr;split at h0
  ·omega
  ·rename_i hl;have hl2:(lookL L p).isSome=false:=by simpa using hl
   split at h0
   ·omega
   ·rename_i h64;unfold addE at h0 ⊢;split at h0
    ·rename_i ha;rw[if_pos ha]
     have hX:(rputK X p c).1=insK p c X:=by
      unfold rputK;rw[if_neg hr,hk,if_neg hl,hlx,if_neg h64,ham,if_neg (by omega)]
     rw[hX];have hno:=lookL_none hl2;have hpl:(insK p c X).Perm (L++[(p,c)]):=(insK_perm p c X).trans ((h.perm.cons (p,c)).trans (List.perm_append_comm (l₁:=[(p,c)]) (l₂:=L)));refine⟨hpl,insK_sort h.sort (fun e he=>hno e (h.perm.mem_iff.1 he)),⟨fun e he=>?_,?_⟩,?_,by omega,?_,fun e he=>?_⟩
     ·rcases List.mem_append.1 he with he|he
      ·exact h.ok.1 e he
      ·rw[List.mem_singleton]at he;subst he;exact⟨hp,hc⟩
     ·rw[List.map_append,List.nodup_append];refine⟨h.ok.2,by simp,fun a ha b hb hab=>?_⟩;obtain⟨e,he,rfl⟩:=List.mem_map.1 ha;simp at hb;exact hno e he (hab.trans hb)
     ·rw[amtK_app,amtK_one,h.sum]
     ·rw[List.length_append];simp;omega
     ·rcases List.mem_append.1 he with he|he
      ·exact h.ix e he
      ·rw[List.mem_singleton]at he;subst he;exact⟨by show 0≤p.2;omega,by show p.2≤15;omega⟩
    ·simp at h0
theorem rputK_same{X:LocksL}{p:PtK}{c:LockV}(h:(rputK X p c).2≠0):(rputK X p c).1=X:=by
 unfold rputK at *
 (repeat' split) <;> first|rfl|skip
 all_goals simp_all
theorem dropL_eq{L:LocksL}{p:PtK}(hd:(L.map (·.1)).Nodup):dropL L p=cutK L p:=by
 induction L with
 | nil=>rfl
 | cons e r ih =>
  rw[List.map_cons,List.nodup_cons]at hd;unfold dropL cutK at *;by_cases h:e.1=p
  ·rw[List.eraseP_cons_of_pos (by simpa using h),List.filter_cons_of_neg (by simpa using h)]
   exact(List.filter_eq_self.2 (fun x hx=>by
    have:x.1≠p:=fun hxp=>hd.1 (List.mem_map.2 ⟨x,hx,by rw[hxp,h]⟩)
    simpa using this)).symm
  ·rw[List.eraseP_cons_of_neg (by simpa using h),List.filter_cons_of_pos (by simpa using h),ih hd.2]
theorem amtK_cut{L:LocksL}{p:PtK}(hd:(L.map (·.1)).Nodup):amtK (cutK L p)=amtK L - ((lookL L p).getD noLock).1.2:=by
 induction L with
 | nil=>rfl
 | cons e r ih =>
  rw[List.map_cons,List.nodup_cons]at hd;by_cases h:e.1=p
  ·have h1 : cutK (e :: r) p = r := by
    unfold cutK;rw[List.filter_cons_of_neg (by simpa using h)]
    exact List.filter_eq_self.2 (fun x hx=>by
     have:x.1≠p:=fun hxp=>hd.1 (List.mem_map.2 ⟨x,hx,by rw[hxp,h]⟩)
     simpa using this)
   have h2:lookL (e::r) p=some e.2:=by unfold lookL;rw[List.find?_cons_of_pos (by simpa using h)];rfl
   rw[h1,h2];unfold amtK;rw[List.map_cons,List.sum_cons];simp only [Option.getD_some];omega
  ·have h1:cutK (e::r) p=e::cutK r p:=by unfold cutK;rw[List.filter_cons_of_pos (by simpa using h)]
   have h2:lookL (e::r) p=lookL r p:=by unfold lookL;rw[List.find?_cons_of_neg (by simpa using h)]
   have h3:=ih hd.2;rw[h1,h2];unfold amtK at h3 ⊢;rw[List.map_cons,List.sum_cons,List.map_cons,List.sum_cons,h3];omega
theorem RelK.amtp{X L:LocksL}{s:Int}(h:RelK X L s)(p:PtK):0≤((lookL L p).getD noLock).1.2∧((lookL L p).getD noLock).1.2≤s:=by
 have h1:=amtK_cut (p:=p) h.ok.2;have h2:=amtK_nn (l:=cutK L p) (fun e he=>h.ok.1 e (List.mem_filter.1 he).1);have h3:=h.sum;refine⟨?_,by omega⟩;cases hl:lookL L p with
 | none=>simp [noLock,noCoin]
 | some c =>
  obtain⟨e,he,rfl⟩:=Option.map_eq_some_iff.1 (show(L.find? (fun e=>e.1 == p)).map (·.2)=some c from hl);exact(h.ok.1 e (List.mem_of_find?_eq_some he)).2.1.2.1
theorem RelK.take{X L:LocksL}{s:Int}(h:RelK X L s)(p:PtK):RelK (cutK X p) (dropL L p) (s - ((lookL L p).getD noLock).1.2):=by
 have h1:=amtK_cut (p:=p) h.ok.2;have h2:=h.amtp p;rw[dropL_eq h.ok.2];refine⟨h.perm.filter _,List.Pairwise.filter _ h.sort,⟨fun e he=>h.ok.1 e (List.mem_filter.1 he).1,?_⟩,?_,?_,?_,fun e he=>h.ix e (List.mem_filter.1 he).1⟩
 ·exact List.Nodup.sublist (List.Sublist.map _ List.filter_sublist) h.ok.2
 ·rw[h1,h.sum]
 ·have:=h.max;omega
 ·exact Nat.le_trans (List.length_filter_le _ _) h.len
theorem RelK.all{X L:LocksL}{s:Int}(h:RelK X L s){ks ss:List PtS}(hp:(ks.map (·.1)).Perm (L.map (·.1)))(hs:ks=sortP ss):ks.map (·.1)=X.map (·.1):=by
 have tr:∀x y z:PtS,(!(ltOf cfPt) y x)=true→(!(ltOf cfPt) z y)=true→(!(ltOf cfPt) z x)=true:=fun x y z h1 h2=>by
  simp only [Bool.not_eq_true']at *;exact swo_pt.ntrans z y x h2 h1
 have tto:∀x y:PtS,((!(ltOf cfPt) y x) ||(!(ltOf cfPt) x y))=true:=fun x y=>by
  by_cases hc:ltOf cfPt y x=true
  ·have : ltOf cfPt x y = false := by
    cases hh:ltOf cfPt x y with
    | false=>rfl
    | true=>have:=swo_pt.trans y x y hc hh;rw[swo_pt.irrefl]at this;cases this
   simp [hc,this]
  ·simp [Bool.not_eq_true _▸hc]
 have hk:(ks.map (·.1)).Pairwise (fun a b=>cmpP a b≤0):=by
  rw[List.pairwise_map,hs];refine(List.pairwise_mergeSort tr tto ss).imp fun {a b} hab=>?_
  simp only [Bool.not_eq_true']at hab;rw[nlt_pt]at hab;exact hab
 have hX:(X.map (·.1)).Pairwise (fun a b=>cmpP a b≤0):=by
  rw[List.pairwise_map];exact h.sort.imp fun {a b} hab=>by omega
 refine List.Perm.eq_of_pairwise (le:=fun a b=>cmpP a b≤0) (fun a b _ _ h1 h2=>?_) hk hX (hp.trans (h.perm.map _).symm);have h3:=cmpP_neg a b;exact(cmpP_zero a b).1 (by omega)
theorem ptV_one(p:PtK):∀u∈ptV p,u.oneCell'=true:=fun u h=>by
 unfold ptV at h;rcases List.mem_append.1 h with h|h
 ·exact mapB_one _ u h
 ·rw[List.mem_singleton]at h;subst h;rfl
theorem ptV_cl{p:PtK}(h:PtOK p):Cl 33 (ptV p):=⟨ptV_length h.1,ptV_one p⟩
theorem coinV_cl{c:CoinV}(h:CoinOK c):Cl 33 (coinV c):=⟨coinV_length h,coinV_one c⟩
theorem zero_point:(Tryz.prog.info? 69).map (·.zero)=some (some (.agg (ptV (pt 0)).toArray)):=by kernel_rfl
theorem len_point:(ptV (pt 0)).length=33:=by simp [ptV,pt]
theorem len_coin:(coinV noCoin).length=33:=coinV_length noCoin_ok
theorem coinV_amt{c:CoinV}(h:CoinOK c):(coinV c)[32]? = some (.int .u64 c.2):=by
 unfold coinV;rw[List.getElem?_append_right (by simp [h.1])];simp [h.1]
theorem ret_t_t {P : Program} {fn : Func} {a : Act} {w : World} {q r : Tmp} (h : fn.results = #[.tmp q, .tmp r]) {v u : Value} (hq : a.tmps.getD q undef = v) (hr : a.tmps.getD r undef = u) (hd : a.defers = [])
  {R:Ending→World→Prop} (hR:R (.returned (.tuple #[v,u])) w):bodyPost P fn R .ret a w:=by
 refine bodyPost_ret (v:=.tuple #[v,u]) ?_ hd hR;have hq':a.tmps[q]?.getD undef=v:=by simpa using hq
 have hr':a.tmps[r]?.getD undef=u:=by simpa using hr
 simp [results,h,hq',hr']
theorem zero_penC:(Tryz.prog.info? 106).map (·.zero)=some (some (.agg ([Value.slice none 0 0]).toArray)):=by kernel_rfl
end Go.Proofs.YtnnjjbkdjkjnpaaGreatDoor

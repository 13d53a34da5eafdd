/- The contract of locks.Put. Printed by mklock.py. -/
import Derived.Test.YtnnjjbkdjkjnpaaGreatDoorSpendPlaysRb19
set_option linter.unusedSimpArgs false
set_option linter.unusedVariables false
set_option maxRecDepth 100000
set_option maxHeartbeats 16000000
namespace Go.Proofs.YtnnjjbkdjkjnpaaGreatDoor
open Go.RowKit
def putQ(L:LocksL)(s:Int)(p:PtK)(c:CoinV):Int:=
 if p.2 < 0∨16≤p.2∨c.2=0∨4611686018427387904 < c.2 then 5 else if(lookL L p).isSome then 24 else if 64≤L.length then 18 else(addE s c.2).2
theorem lookL_none{L:LocksL}{p:PtK}(h:(lookL L p).isSome=false):∀e∈L,e.1≠p:=by
 intro e he hk;unfold lookL at h;cases hf:L.find? (fun e=>e.1 == p) with
 | none=>exact List.find?_eq_none.1 hf e he (by simpa using hk)
 | some x=>rw[hf]at h;simp at h
theorem built_lock0(parts:List (Nat×Value)):Tryz.prog.built 118 parts=Instr.fill (fun i=>(#[(0,33),(33,32)]:Array (Nat×Nat))[i]?) (lockV noLock).toArray parts:=by kernel_rfl
theorem built_lock{x:LockV}(h:LockOK x):Tryz.prog.built 118 [(0,.agg (coinV x.1).toArray),(1,.agg (x.2.map B).toArray)]=some (lockV x).toArray:=by
 have l0:=lockV_length noLock_ok;have l1:=coinV_length h.1;have l2:(x.2.map B).length=32:=by rw[List.length_map,h.2]
 rw[built_lock0,fill_cons (off:=0) (s:=33) (cs:=coinV x.1) rfl rfl l1 (by rw[l0];omega),fill_cons (off:=33) (s:=32) (cs:=x.2.map B) rfl rfl l2 (by unfold splice;simp only [List.length_append,List.length_take,List.length_drop,l0,l1];omega),fill_nil];refine congrArg (fun l:List Value=>some l.toArray) ?_;rw[show lockV x=coinV x.1++x.2.map B from rfl];unfold splice;rw[l1,l2];have l3:(List.drop (0+33) (lockV noLock)).length=32:=by rw[List.length_drop,l0]
 rw[List.take_zero,List.nil_append,List.take_append_of_le_length (by omega),List.take_of_length_le (by omega),List.drop_of_length_le (by simp only [List.length_append];omega),List.append_nil]
def putK(w0:World)(g b:Nat)(es:Array MapEntry)(clock:Nat)(p:PtK)(c:LockV)(s s2:Int)(k:Nat)(w:World):Prop:=
 Touched [g,b] w0 w∧w.heap.size=w0.heap.size ∧
 w.heap[b]? = some (if k=0 then .map es clock else if k=1 then .map (es.push { key:=ptA p,val:=lockA noLock,born:=clock }) (clock+1)
  else .map ((es.push { key:=ptA p,val:=lockA noLock,born:=clock }).modify es.size fun e=>{ e with val:=lockA c }) (clock+1)) ∧
 Blk w g 99 [.map (some b),.int .u64 (if k=3 then s2 else s)]
section
variable {w0 w:World} {g b:Nat} {es:Array MapEntry} {clock:Nat} {p:PtK} {c:LockV} {s s2:Int} {lx:Lit}
theorem putK.start(h1:w0.heap[b]? = some (.map es clock))(h2:Blk w0 g 99 [.map (some b),.int .u64 s]):putK w0 g b es clock p c s s2 0 w0.drew:=
 ⟨Touched.of_below (Drawn.all (Drawn.one w0)),rfl,h1,h2⟩
theorem putK.entry(h:putK w0 g b es clock p c s s2 0 w)(hgb:g≠b):putK w0 g b es clock p c s s2 1 (withBlk w b (.map (es.push { key:=ptA p,val:=lockA noLock,born:=clock }) (clock+1))):=by
 obtain⟨h1,h2,h3,h4⟩:=h;exact⟨h1.grown (withBlk_grown _ _ _) (.inl (by simp)),by rw[withBlk_size,h2],withBlk_heap h3,h4.grown (withBlk_grown _ _ _) (by simpa using hgb)⟩
theorem putK.fill(h:putK w0 g b es clock p c s s2 1 w)(hgb:g≠b):putK w0 g b es clock p c s s2 2 (withBlk w b (.map ((es.push { key:=ptA p,val:=lockA noLock,born:=clock }).modify es.size fun e=>{ e with val:=lockA c }) (clock+1))):=by
 obtain⟨h1,h2,h3,h4⟩:=h;exact⟨h1.grown (withBlk_grown _ _ _) (.inl (by simp)),by rw[withBlk_size,h2],withBlk_heap h3,h4.grown (withBlk_grown _ _ _) (by simpa using hgb)⟩
theorem putK.sum(h:putK w0 g b es clock p c s s2 2 w)(hgb:g≠b):putK w0 g b es clock p c s s2 3 (w.setCell ⟨g,1,none⟩ (.int .u64 s2)):=by
 obtain⟨h1,h2,h3,h4⟩:=h;exact⟨h1.grown (grown_set w g 1 _) (.inl (by simp)),by simpa using h2,((grown_set w g 1 (.int .u64 s2)).block b (Array.getElem?_eq_some_iff.1 h3).1 (by simpa using fun e=>hgb e.symm)).trans h3,h4.set_ 1 (.int .u64 s2)⟩
theorem putK.run0 (h : putK w0 g b es clock p c s s2 0 w) (hm : MapOK Tryz.prog 69 es clock) (hx : keyOf Tryz.prog 69 (ptA p) = some lx) (hno : ∀ q ∈ kvs es, q.1 ≠ ptA p) :
  (Instr.mapEntry 97 (.map (some b)) (ptA p)).run Tryz.prog w=.ok (.tuple #[lockA noLock,goInt clock]) (withBlk w b (.map (es.push { key:=ptA p,val:=lockA noLock,born:=clock }) (clock+1))):=
 run_mapEntry_no kl_point Tryz.underlying97 h.2.2.1 hm hx hno zeroV_lock
theorem putK.run1 (h : putK w0 g b es clock p c s s2 1 w) (hm : MapOK Tryz.prog 69 es clock) (hx : keyOf Tryz.prog 69 (ptA p) = some lx) (hno : ∀ q ∈ kvs es, q.1 ≠ ptA p) :
  (Instr.entryStore 97 (.map (some b)) (.int .i64 clock) (lockA c)).run Tryz.prog w=.ok () (withBlk w b (.map ((es.push { key:=ptA p,val:=lockA noLock,born:=clock }).modify es.size fun e=>{ e with val:=lockA c }) (clock+1))):=
 run_entryStore Tryz.underlying97 h.2.2.1 (hm.push hx hno _) (j:=es.size) (en:={ key:=ptA p,val:=lockA noLock,born:=clock }) (by simp) (lockA c)
theorem putK.done {L : LocksL} (h : putK w0 g b es clock p c s s2 3 w) (hgb : g ≠ b) (hm : MapOK Tryz.prog 69 es clock) (hx : keyOf Tryz.prog 69 (ptA p) = some lx) (hno : ∀ q ∈ kvs es, q.1 ≠ ptA p) (hL : kvs es = encL L) (hLO : LKOK (L ++ [(p, c)])) :
  LocksAt w g b (L++[(p,c)]) s2:=by
 obtain⟨h1,h2,h3,h4⟩:=h;refine⟨h4,⟨_,_,h3,(hm.push hx hno _).modify _ _,?_⟩,hLO,hgb⟩;rw[kvs_modify (en:={ key:=ptA p,val:=lockA noLock,born:=clock }) (by simp),kvs_push,hL];have:es.size=(encL L).length:=by rw[← hL,kvs_length]
 rw[this];simp [encL]
end
theorem kput_any (g b : Nat) (L : LocksL) (s : Int) (p : PtK) (id : List UInt8) (c : CoinV) (w : World) (h : LocksAt w g b L s) (hp : PtOK p) (hi : id.length = 32) (hc : CoinOK c) (hs0 : 0 ≤ s) (hs1 : s ≤ 4611686018427387904) :
  Calls Tryz.prog 34 #[.pointer (some ⟨g,0,none⟩),ptA p,.agg (id.map B).toArray,coinA c] w fun e w'=>e=.returned (.int .i64 (putQ L s p c))∧Touched [g,b] w w' ∧
   (putQ L s p c=0→LocksAt w' g b (L++[(p,(c,id))]) (addE s c.2).1)∧(putQ L s p c≠0→LocksAt w' g b L s):=by
 obtain⟨d,hd,hde,-⟩:=h.look hp;obtain⟨ok,hok⟩:=xe ((lookL L p).isSome)
 have hlk:∀w',LocksAt w' g b L s→(Instr.lookup 97 (.map (some b)) (ptA p) true).run Tryz.prog w'=.ok (.tuple #[lockA d,.bool ok]) w':=by
  intro w' h';obtain⟨c',_,e,h2⟩:=h'.look hp;rw[hde,← e,hok];exact h2
 have HLK:=kp hlk;have HC:=kp h;have HP:=kp hp;obtain⟨lk,hlkv⟩:∃q:LockV,q=(c,id):=⟨_,rfl⟩;have hlo:LockOK lk:=by rw[hlkv];exact⟨hc,hi⟩
 have HCO:=kp hlo;have HX:=kp (ptV_length hp.1);have HY:=kp (coinV_length hc);have HIL:=kq ((id.map B).length=32) (by rw[List.length_map,hi]);have HLL:=kp (lockV_length hlo);have HL1:=kp (lockV_one lk);have HBL:=kq (Tryz.prog.built 118 [(0,.agg (coinV c).toArray),(1,.agg (id.map B).toArray)]=some (lockV lk).toArray) (by have:=built_lock hlo;rw[hlkv]at this ⊢;exact this);have HDL:=kp (lockV_length hd);have HD1:=kp (lockV_one d);have HOK:=kp hok;have HPI:=kp (ptV_ix hp.1)
 have HCI:=kp (show(lockV lk)[32]? = some (.int .u64 c.2) by
  have h1:(coinV c)[32]? = some (.int .u64 c.2):=by unfold coinV;rw[List.getElem?_append_right (by simp [hc.1])];simp [hc.1]
  have:=lock_coin (x:=lk) (j:=32) (by rw[hlkv];exact h1)
  simpa using this)
 have hpw:=bounds_i64 hp.2;have hc0:=hc.2.1;have hc1:=hc.2.2;obtain⟨r,hr⟩:=xe (putQ L s p c);rw[← hr];have HR:=kp hr;rw[← hlkv];clear hok hde hc hp hlk hd hr hi hlo hlkv;obtain⟨xs,hxs⟩:=xe (ptV p);obtain⟨ks,hks⟩:=xe (coinV c);obtain⟨is,his⟩:=xe (id.map B);obtain⟨ys,hys⟩:=xe (lockV lk);obtain⟨cs,hcs⟩:=xe (lockV d);rw[lockA,← hcs]at HLK;rw[← hcs]at HDL HD1;rw[ptA,← hxs,coinA,← hks,← his];rw[ptA,← hxs]at HLK;rw[← hxs]at HX HPI;rw[← hks]at HY;rw[← his]at HIL;rw[← hys]at HLL HL1 HCI;rw[← hks,← his,← hys]at HBL;have HXE:=kp hxs;have HYE:=kp hys;clear hxs hcs hys hks his;obtain⟨z,hz⟩:=xe w.heap.size;have hg:g < z:=by rw[hz];exact h.ltg
 have hb:b < z:=by rw[hz];exact h.ltb
 have HZ:=kp hz;have hal:=addE_bd s c.2 hs0 hc0;have ha:=fun w=>cadd_any s c.2 w hs0 hc0
 obtain⟨ae,hae⟩:=xe (addE s c.2);rw[← hae]at hal ha ⊢;have HAE:=kp hae;have HA:=kp ha;obtain⟨pi,hpi⟩:=xe p.2;obtain⟨ci,hci⟩:=xe c.2;rw[← hpi]at HPI hpw;rw[← hci]at HCI hc0 hc1 HA;have HPE:=kp hpi;have HCE:=kp hci;obtain⟨s2,ec⟩:=ae;simp only at HA hal;clear h hz ha hae hpi hci
 go_enter Tryz.func34,Tryz.ntmps34
 go_wp2_with (with_reducible first|refine wpl_box (o:=⟨some 5,_,_,_,_,_⟩) rfl rfl rfl ?_);intro w1 hb1 hbw1 hsz1;rw[← HZ.o]at hb1 hbw1 hsz1 ⊢;go_wp2_with (with_reducible first|refine wpl_box (o:=⟨some 6,_,_,_,_,_⟩) rfl rfl rfl ?_);intro w2 hb2 hbw2 hsz2;have HB1:=kp (hb1.below hbw2 (by omega));have HBW:=kp (hbw1.trans (hbw2.mono (by omega)));go_wp2_with (with_reducible first|refine wpl_box (o:=⟨some 7,_,_,_,_,_⟩) rfl rfl rfl ?_);intro w3 hb3 hbw3 hsz3;have HB1':=kp (HB1.o.below hbw3 (by omega));have HB2:=kp (hb2.below hbw3 (by omega));have HB3:=kp hb3;have HBW3:=kp (HBW.o.trans (hbw3.mono (by omega)));have HS3:=kq (w3.heap.size=z+3) (by omega);have HC3:=kp (HC.o.below HBW3.o hg hb);clear hb1 hb2 hb3 hbw1 hbw2 hbw3 hsz1 hsz2 hsz3 HB1 HBW HC;generalize hz1:z+1=z1 at *;generalize hz2:z1+1=z2 at *;have HZ1:=kq (z1=z+1∧z2=z+2) (by omega);clear hz1 hz2;go_wp2_with (first|(with_reducible refine wlb 14 row_coin HB3.o HY.o ?_)|(with_reducible refine wlb 15 row_idk HB2.o HIL.o ?_)|(refine wpl_build (o:=⟨some 16,_,_,_,_,_⟩) rfl rfl HBL.o ?_)|(with_reducible refine wpl_alloc (o:=⟨some 9,_,_,_,_,_⟩) rfl rfl zero_lock ?_));intro w4 hb4 hbw4 hsz4;have HB4:=kp hb4;have HP4:=kp (HB1'.o.call hbw4);have HC4:=kp (HC3.o.call hbw4);have HBW4:=kp (HBW3.o.trans (hbw4.mono (by have:=HS3.o;omega)));have HS4:=kq (w4.heap.size=z+4) (by have:=HS3.o;omega);clear hb4 hbw4 hsz4 HB1' HB2 HB3 HC3 HBW3;generalize hz3:w3.heap.size=z3 at *;have HZ3:=kq (z3=z+3) HS3.o;clear hz3 HS3;go_wp2_with (with_reducible first|refine wpl_storeb (o:=⟨none,.store _ _ _,_,_,_,_⟩) rfl rfl row_lock HB4.o rfl rfl (lockV_length noLock_ok) HLL.o HL1.o ?_);intro w5 hb5 hg5 hs5;have HX5:=kp hb5;have HP5:=kp (HP4.o.grown hg5 (by have:=HZ3.o;simp;omega))
 have HC5:=kp (show LocksAt w5 g b L s from by
  obtain⟨q1,⟨e1,c1,q2,q3,q4⟩,q5,q6⟩:=HC4.o;have:=HZ3.o
  exact⟨q1.grown hg5 (by simp;omega),⟨e1,c1,(hg5.block b (Array.getElem?_eq_some_iff.1 q2).1 (by simp;omega)).trans q2,q3,q4⟩,q5,q6⟩)
 have HL5:=kp (HBW4.o.grown hg5 (by have:=HS4.o;omega) (fun k hk=>by cases hk;have:=HZ3.o;omega));have HS5:=kq (w5.heap.size=z+4) (by rw[hs5];exact HS4.o);have HT5:=kp (Touched.of_below (l:=[g,b]) (show Below w.heap.size w w5 by rw[← HZ.o];exact HL5.o));clear hb5 hg5 hs5 HB4 HP4 HC4 HBW4 HS4;have c1:=HP5.o.at_ HPI.o;have c2:=HX5.o.at_ HCI.o;by_cases h1:pi < 0
 ·have e:r=5:=by rw[HR.o,putQ,if_pos (.inl (by rw[← HPE.o];exact h1))]
  have HE:=kp e;clear e;go_wp2_with fail;go_ret
  exact⟨ret_int HE.o.symm,HT5.o,fun h=>by have:=HE.o;omega,fun _=>HC5.o⟩
 by_cases h2:16≤pi
 ·have e:r=5:=by rw[HR.o,putQ,if_pos (.inr (.inl (by rw[← HPE.o];exact h2)))]
  have HE:=kp e;clear e;go_wp2_with fail;go_ret
  exact⟨ret_int HE.o.symm,HT5.o,fun h=>by have:=HE.o;omega,fun _=>HC5.o⟩
 by_cases h3:ci=0
 ·have e:r=5:=by rw[HR.o,putQ,if_pos (.inr (.inr (.inl (by rw[← HCE.o];exact h3))))]
  have HE:=kp e;clear e;have hb3:(ci == 0)=true:=by simpa using h3
  clear h3;go_wp2_with fail;go_ret
  exact⟨ret_int HE.o.symm,HT5.o,fun h=>by have:=HE.o;omega,fun _=>HC5.o⟩
 have hb3:(ci == 0)=false:=beq_eq_false_iff_ne.2 h3;by_cases h4:4611686018427387904 < ci
 ·have e:r=5:=by rw[HR.o,putQ,if_pos (.inr (.inr (.inr (by rw[← HCE.o];exact h4))))]
  have HE:=kp e;clear e;clear h3;go_wp2_with fail;go_ret
  exact⟨ret_int HE.o.symm,HT5.o,fun h=>by have:=HE.o;omega,fun _=>HC5.o⟩
 have HN:=kq (¬ (p.2 < 0∨16≤p.2∨c.2=0∨4611686018427387904 < c.2)) (by rw[← HPE.o,← HCE.o];omega);clear h3;go_wp2_with fail;repeat' (first|(with_reducible refine wp_phase (id:=4) (newC w5 118 (lockV noLock) cs) [9,10] [(0,2),(0,2),(0,2),(0,2),(0,2),(0,2),(0,2),(0,2),(0,2),(0,0),(1,1),(0,2)] (by kernel_rfl) (by kernel_rfl) ?_ ?_)|go_values|go_skip|go_guarded|go_step|go_upon|go_back)
 ·exact newC.start
 have HF:=kq (∀k w',newC w5 118 (lockV noLock) cs k w'→w'.cell? ⟨g,0,none⟩=some (.map (some b))) (fun k w' h=>(HC5.o.call (newC.low k w' h)).blk.at_ rfl);have HL:=kq (∀k w',newC w5 118 (lockV noLock) cs k w'→(Instr.lookup 97 (.map (some b)) (.agg xs.toArray) true).run Tryz.prog w'=.ok (.tuple #[.agg cs.toArray,.bool ok]) w') (fun k w' h=>HLK.o w' (HC5.o.call (newC.low k w' h)));have HX1:=kq (∀k w',newC w5 118 (lockV noLock) cs k w'→Blk w' z 69 xs) (fun k w' h=>HP5.o.call (newC.low k w' h));clear c1 c2;refine ph_value rfl (by first|rfl|go_simp) (fun k_ _ _ w_ hC_=>by first|(go_simp;rfl)|(go_simp;done)|rfl) (fun K hK=>?_);go_simp;refine hK _ ?_;clear hK K;refine ph_value rfl (by first|rfl|go_simp) (fun k_ _ _ w_ hC_=>by first|(go_simp;rfl)|(go_simp;done)|rfl) (fun K hK=>?_);go_simp;refine hK _ ?_;clear hK K;refine ph_value rfl (by first|rfl|go_simp) (fun k_ _ _ w_ hC_=>by first|(go_simp;rfl)|(go_simp;done)|rfl) (fun K hK=>?_);go_simp;refine hK _ ?_;clear hK K;refine ph_value rfl (by first|rfl|go_simp) (fun k_ _ _ w_ hC_=>by have c1:=HF.o _ _ hC_;first|(go_simp;rfl)|(go_simp;done)|rfl) (fun K hK=>?_);go_simp;refine hK _ ?_;clear hK K;refine ph_load rfl rfl rfl row_point (fun k _ _ w h=>HX1.o k w h) rfl HX.o ?_
 (intro K hK;go_simp;refine hK _ ?_;clear hK K)
 refine ph_value rfl (by first|rfl|go_simp) (fun k_ _ _ w_ hC_=>by have c1:=HL.o _ _ hC_;first|(go_simp;rfl)|(go_simp;done)|rfl) (fun K hK=>?_);go_simp;refine hK _ ?_;clear hK K;refine ph_value rfl (by first|rfl|go_simp) (fun k_ _ _ w_ hC_=>by first|(go_simp;rfl)|(go_simp;done)|rfl) (fun K hK=>?_);go_simp;refine hK _ ?_;clear hK K;refine ph_value rfl (by first|rfl|go_simp) (fun k_ _ _ w_ hC_=>by first|(go_simp;rfl)|(go_simp;done)|rfl) (fun K hK=>?_);go_simp;refine hK _ ?_;clear hK K;refine ph_value rfl (by first|rfl|go_simp) (fun k_ _ _ w_ hC_=>by first|(go_simp;rfl)|(go_simp;done)|rfl) (fun K hK=>?_);go_simp;refine hK _ ?_;clear hK K;refine ph_alloc 0 rfl rfl rfl rfl rfl zero_lock newC.lay ?_
 (intro K hK;go_simp;refine hK _ ?_;clear hK K)
 refine ph_store 1 rfl rfl rfl rfl rfl row_lock rfl rfl HDL.o HD1.o (newC.put (lockV_length noLock_ok)) ?_
 (intro K hK;go_simp;refine hK _ ?_;clear hK K)
 refine ph_value rfl (by first|rfl|go_simp) (fun k_ _ _ w_ hC_=>by first|(go_simp;rfl)|(go_simp;done)|rfl) (fun K hK=>?_);go_simp;refine hK _ ?_;clear hK K;refine ph_nil ?_;intro w6 ⟨hl6,hs6,hx6⟩;have HX6:=kp (HX5.o.call hl6);have HP6:=kp (HP5.o.call hl6);have HC6:=kp (HC5.o.call hl6);have HT6:=kp (HT5.o.step hl6);clear hl6 hs6 hx6 HF HL HX1 HX5 HP5 HC5 HT5 HLK;generalize w5.heap.size=xa at *;cases ok
 case true =>
  have e:r=24:=by rw[HR.o,putQ,if_neg HN.o,← HOK.o,if_pos rfl]
  have HE:=kp e;clear e;go_wp2_with fail;go_ret
  exact⟨ret_int HE.o.symm,HT6.o,fun h=>by have:=HE.o;omega,fun _=>HC6.o⟩
 case false =>
  have c3:w6.cell? ⟨g,0,none⟩=some (.map (some b)):=HC6.o.blk.at_ rfl;obtain⟨es,clock,hm1,hm2,hm3⟩:=HC6.o.map;have ee:es.size=L.length:=by rw[← kvs_length,hm3];simp [encL]
  have hl:=fun ty=>run_len_map w6 97 ty b es clock Tryz.underlying97 hm1
  simp only [ee]at hl;obtain⟨n,hn⟩:=xe L.length;rw[← hn]at hl;have HNL:=kp hn;clear hm1 hm2 hm3 ee hn;by_cases h5:64≤n
  ·have e:r=18:=by rw[HR.o,putQ,if_neg HN.o,← HOK.o,if_neg (by simp),← HNL.o,if_pos h5]
   have HE:=kp e;clear e;go_wp2_with fail;go_ret
   exact⟨ret_int HE.o.symm,HT6.o,fun h=>by have:=HE.o;omega,fun _=>HC6.o⟩
  have e:r=ec:=by rw[HR.o,putQ,if_neg HN.o,← HOK.o,if_neg (by simp),← HNL.o,if_neg h5,← HAE.o]
  have HE:=kp e;clear e;go_wp2_with fail;clear hl c3;repeat' (first|(with_reducible refine wp_phase (id:=9) (fun(_:Nat) w'=>Below w6.heap.size w6 w') [] [(0,0),(0,0),(0,0),(0,0),(0,0),(0,0),(0,0),(0,0),(0,0),(0,0),(0,0),(0,0),(0,0)] (by kernel_rfl) (by kernel_rfl) ?_ ?_)|go_values|go_skip|go_guarded|go_step|go_upon|go_back)
  ·exact Drawn.all (Drawn.one w6)
  have HF1:=kq (∀w',Below w6.heap.size w6 w'→w'.cell? ⟨g,1,none⟩=some (.int .u64 s)) (fun w' h=>(HC6.o.call h).blk.at_ rfl);have HF2:=kq (∀w',Below w6.heap.size w6 w'→w'.cell? ⟨z3,32,none⟩=some (.int .u64 ci)) (fun w' h=>(HX6.o.call h).at_ HCI.o);refine ph_value rfl (by first|rfl|go_simp) (fun k_ _ _ w_ hC_=>by first|(go_simp;rfl)|(go_simp;done)|rfl) (fun K hK=>?_);go_simp;refine hK _ ?_;clear hK K;refine ph_value rfl (by first|rfl|go_simp) (fun k_ _ _ w_ hC_=>by first|(go_simp;rfl)|(go_simp;done)|rfl) (fun K hK=>?_);go_simp;refine hK _ ?_;clear hK K;refine ph_value rfl (by first|rfl|go_simp) (fun k_ _ _ w_ hC_=>by first|(go_simp;rfl)|(go_simp;done)|rfl) (fun K hK=>?_);go_simp;refine hK _ ?_;clear hK K;refine ph_value rfl (by first|rfl|go_simp) (fun k_ _ _ w_ hC_=>by have c1:=HF1.o _ hC_;first|(go_simp;rfl)|(go_simp;done)|rfl) (fun K hK=>?_);go_simp;refine hK _ ?_;clear hK K;refine ph_value rfl (by first|rfl|go_simp) (fun k_ _ _ w_ hC_=>by first|(go_simp;rfl)|(go_simp;done)|rfl) (fun K hK=>?_);go_simp;refine hK _ ?_;clear hK K;refine ph_value rfl (by first|rfl|go_simp) (fun k_ _ _ w_ hC_=>by first|(go_simp;rfl)|(go_simp;done)|rfl) (fun K hK=>?_);go_simp;refine hK _ ?_;clear hK K;refine ph_value rfl (by first|rfl|go_simp) (fun k_ _ _ w_ hC_=>by have c1:=HF2.o _ hC_;first|(go_simp;rfl)|(go_simp;done)|rfl) (fun K hK=>?_);go_simp;refine hK _ ?_;clear hK K;refine ph_call rfl (by first|rfl|go_simp) (fun w=>by first|rfl|(go_simp;rfl)|go_simp) (fun k _ _ w h=>(HA.o w).mono fun e w' ⟨he,hb⟩=>⟨he,below_step h h.size hb⟩) ?_
  (intro K hK;go_simp;refine hK _ ?_;clear hK K)
  refine ph_value rfl (by first|rfl|go_simp) (fun k_ _ _ w_ hC_=>by first|(go_simp;rfl)|(go_simp;done)|rfl) (fun K hK=>?_);go_simp;refine hK _ ?_;clear hK K;refine ph_value rfl (by first|rfl|go_simp) (fun k_ _ _ w_ hC_=>by first|(go_simp;rfl)|(go_simp;done)|rfl) (fun K hK=>?_);go_simp;refine hK _ ?_;clear hK K;refine ph_value rfl (by first|rfl|go_simp) (fun k_ _ _ w_ hC_=>by first|(go_simp;rfl)|(go_simp;done)|rfl) (fun K hK=>?_);go_simp;refine hK _ ?_;clear hK K;refine ph_value rfl (by first|rfl|go_simp) (fun k_ _ _ w_ hC_=>by first|(go_simp;rfl)|(go_simp;done)|rfl) (fun K hK=>?_);go_simp;refine hK _ ?_;clear hK K;refine ph_value rfl (by first|rfl|go_simp) (fun k_ _ _ w_ hC_=>by first|(go_simp;rfl)|(go_simp;done)|rfl) (fun K hK=>?_);go_simp;refine hK _ ?_;clear hK K;refine ph_nil ?_;intro w7 hl7;have HX7:=kp (HX6.o.call hl7);have HP7:=kp (HP6.o.call hl7);have HC7:=kp (HC6.o.call hl7);have HT7:=kp (HT6.o.step hl7);clear HF1 HF2 hl7 HX6 HP6 HC6 HT6;by_cases h6:ec=0
  ·have hb6:(ec != 0)=false:=bne_eq_false_iff_eq.2 h6;have hb7:(ec == 0)=true:=by simpa using h6
   have H6:=kp h6;clear h6;obtain⟨es,clock,hm1,hm2,hm3⟩:=HC7.o.map;have HM1:=kp hm1;have HM2:=kp hm2;have HM3:=kp hm3;clear hm1 hm2 hm3;obtain⟨lx,hx⟩:=keyOf_pt p HP.o
   have hno:∀q∈kvs es,q.1≠ptA p:=by
    intro q hq e;rw[HM3.o]at hq;obtain⟨en,hen,rfl⟩:=List.mem_map.1 hq;exact lookL_none HOK.o.symm en hen (ptA_inj (HC7.o.ok.1 en hen).1.1 HP.o.1 e)
   have hlo:LKOK (L++[(p,lk)]):=by
    refine⟨fun e he=>?_,?_⟩
    ·rcases List.mem_append.1 he with he|he
     ·exact HC7.o.ok.1 e he
     ·have:e=(p,lk):=by simpa using he
      subst this;exact⟨HP.o,HCO.o⟩
    ·rw[List.map_append,List.nodup_append];refine⟨HC7.o.ok.2,by simp,fun a ha b' hb' e=>?_⟩;obtain⟨en,hen,rfl⟩:=List.mem_map.1 ha;have hb2:b'=p:=by simpa using hb'
     exact lookL_none HOK.o.symm en hen (e.trans hb2)
   have HXK:=kp hx;have HNO:=kp hno;have HLO:=kp hlo;clear hx hno hlo;have HGB:=kp HC7.o.ne;go_wp2_with fail;repeat' (first|(with_reducible refine wp_phase (id:=11) (putK w7 g b es clock p lk s s2) [8,10,13] [(0,3),(0,3),(0,3),(0,3),(0,3),(0,3),(0,3),(0,3),(0,0),(0,3),(1,1),(0,3),(0,3),(2,2)] (by kernel_rfl) (by kernel_rfl) ?_ ?_)|go_values|go_skip|go_guarded|go_step|go_upon|go_back)
   ·exact putK.start HM1.o HC7.o.blk
   have HF:=kq (∀k w',putK w7 g b es clock p lk s s2 k w'→w'.cell? ⟨g,0,none⟩=some (.map (some b))) (fun k w' h=>h.2.2.2.at_ rfl);have HX1:=kq (∀k w',putK w7 g b es clock p lk s s2 k w'→Blk w' z 69 xs) (fun k w' h=>(h.1.block z HP7.o.lt (by simp;omega)).trans HP7.o);have HX2:=kq (∀k w',putK w7 g b es clock p lk s s2 k w'→Blk w' z3 118 ys) (fun k w' h=>(h.1.block z3 HX7.o.lt (by have:=HZ3.o;simp;omega)).trans HX7.o)
   have HR0:=kp (show ∀w',putK w7 g b es clock p lk s s2 0 w'→(Instr.mapEntry 97 (.map (some b)) (.agg xs.toArray)).run Tryz.prog w'=.ok (.tuple #[lockA noLock,.int .i64 clock]) (withBlk w' b (.map (es.push { key:=ptA p,val:=lockA noLock,born:=clock }) (clock+1))) from fun w' h=>by
    have:=h.run0 HM2.o HXK.o HNO.o
    rw[HXE.o];exact this)
   have HR1:=kp (show ∀w',putK w7 g b es clock p lk s s2 1 w'→(Instr.entryStore 97 (.map (some b)) (.int .i64 clock) (.agg ys.toArray)).run Tryz.prog w'=.ok () (withBlk w' b (.map ((es.push { key:=ptA p,val:=lockA noLock,born:=clock }).modify es.size fun e=>{ e with val:=lockA lk }) (clock+1))) from fun w' h=>by
    have:=h.run1 HM2.o HXK.o HNO.o
    rw[HYE.o];exact this)
   refine ph_value rfl (by first|rfl|go_simp) (fun k_ _ _ w_ hC_=>by first|(go_simp;rfl)|(go_simp;done)|rfl) (fun K hK=>?_);go_simp;refine hK _ ?_;clear hK K;refine ph_value rfl (by first|rfl|go_simp) (fun k_ _ _ w_ hC_=>by first|(go_simp;rfl)|(go_simp;done)|rfl) (fun K hK=>?_);go_simp;refine hK _ ?_;clear hK K;refine ph_value rfl (by first|rfl|go_simp) (fun k_ _ _ w_ hC_=>by first|(go_simp;rfl)|(go_simp;done)|rfl) (fun K hK=>?_);go_simp;refine hK _ ?_;clear hK K;refine ph_value rfl (by first|rfl|go_simp) (fun k_ _ _ w_ hC_=>by have c1:=HF.o _ _ hC_;first|(go_simp;rfl)|(go_simp;done)|rfl) (fun K hK=>?_);go_simp;refine hK _ ?_;clear hK K;refine ph_load rfl rfl rfl row_point (fun k _ _ w h=>HX1.o k w h) rfl HX.o ?_
   (intro K hK;go_simp;refine hK _ ?_;clear hK K)
   refine ph_value rfl (by first|rfl|go_simp) (fun k_ _ _ w_ hC_=>by first|(go_simp;rfl)|(go_simp;done)|rfl) (fun K hK=>?_);go_simp;refine hK _ ?_;clear hK K;refine ph_load rfl rfl rfl row_lock (fun k _ _ w h=>HX2.o k w h) rfl HLL.o ?_
   (intro K hK;go_simp;refine hK _ ?_;clear hK K)
   refine ph_value rfl (by first|rfl|go_simp) (fun k_ _ _ w_ hC_=>by first|(go_simp;rfl)|(go_simp;done)|rfl) (fun K hK=>?_);go_simp;refine hK _ ?_;clear hK K;refine ph_run 0 rfl rfl rfl (by first|rfl|go_simp) (fun w' hC=>⟨_,by (have hrun:=HR0.o w' hC);first|(go_simp;rfl)|(go_simp;exact⟨rfl,rfl⟩)|go_simp,hC.entry HGB.o⟩) ?_
   (intro K hK;go_simp;refine hK _ ?_;clear hK K)
   refine ph_value rfl (by first|rfl|go_simp) (fun k_ _ _ w_ hC_=>by first|(go_simp;rfl)|(go_simp;done)|rfl) (fun K hK=>?_);go_simp;refine hK _ ?_;clear hK K;refine ph_runs 1 rfl rfl rfl (by first|rfl|go_simp) (fun w' hC=>⟨_,by (have hrun:=HR1.o w' hC);first|(go_simp;rfl)|(go_simp;exact⟨rfl,rfl⟩)|go_simp,hC.fill HGB.o⟩) ?_
   (intro K hK;go_simp;refine hK _ ?_;clear hK K)
   refine ph_value rfl (by first|rfl|go_simp) (fun k_ _ _ w_ hC_=>by first|(go_simp;rfl)|(go_simp;done)|rfl) (fun K hK=>?_);go_simp;refine hK _ ?_;clear hK K;refine ph_value rfl (by first|rfl|go_simp) (fun k_ _ _ w_ hC_=>by first|(go_simp;rfl)|(go_simp;done)|rfl) (fun K hK=>?_);go_simp;refine hK _ ?_;clear hK K;refine ph_runs 2 rfl rfl rfl (by first|rfl|go_simp) (fun w' hC=>⟨_,by (have hcl:=hC.2.2.2.at_ (i:=1) rfl);(have hfz:=hC.2.2.2.frozen 1);first|(go_simp;rfl)|(go_simp;exact⟨rfl,rfl⟩)|go_simp,hC.sum HGB.o⟩) ?_
   (intro K hK;go_simp;refine hK _ ?_;clear hK K)
   refine ph_nil ?_;intro w8 hC8;have HC8:=kp hC8;clear hC8;go_wp2_with fail;go_ret
   refine⟨ret_int HE.o.symm,HT7.o.trans HC8.o.1,fun _=>HC8.o.done HGB.o HM2.o HXK.o HNO.o HM3.o HLO.o,fun h=>absurd (HE.o.trans H6.o) h⟩
  ·have hb6:(ec != 0)=true:=bne_iff_ne.2 h6;have hb7:(ec == 0)=false:=beq_eq_false_iff_ne.2 h6;have H6:=kp h6;clear h6;go_wp2_with fail;go_ret
   exact⟨ret_int HE.o.symm,HT7.o,fun h=>absurd (HE.o.symm.trans h) H6.o,fun _=>HC7.o⟩
end Go.Proofs.YtnnjjbkdjkjnpaaGreatDoor
namespace Go.Proofs.YtnnjjbkdjkjnpaaGreatDoor
open Go.RowKit
def dropL(L:LocksL)(p:PtK):LocksL:=L.eraseP (fun e=>e.1 == p)
def delK(w0:World)(g b:Nat)(es es':Array MapEntry)(clock:Nat)(s:Int)(k:Nat)(w:World):Prop:=
 Touched [g,b] w0 w∧w.heap.size=w0.heap.size∧w.heap[b]? = some (.map (if k=0 then es else es') clock)∧Blk w g 99 [.map (some b),.int .u64 s]
def sumK(w0:World)(g b:Nat)(es:Array MapEntry)(clock:Nat)(s s2:Int)(k:Nat)(w:World):Prop:=
 Touched [g,b] w0 w∧w.heap.size=w0.heap.size∧w.heap[b]? = some (.map es clock)∧Blk w g 99 [.map (some b),.int .u64 (if k=0 then s else s2)]
theorem free_map {w : World} {g b : Nat} {L : LocksL} {s : Int} (h : LocksAt w g b L s) {p : PtK} (hp : PtOK p) : ∃ es es' clock, w.heap[b]? = some (.map es clock) ∧ MapOK Tryz.prog 69 es' clock ∧ kvs es' = encL (dropL L p) ∧ LKOK (dropL L p) ∧
  ∀w' ty,w'.heap[b]? = some (.map es clock)→(Builtin.delete_ #[97,69] ty #[.map (some b),ptA p]).run Tryz.prog w'=.ok (.tuple #[]) (withBlk w' b (.map es' clock)):=by
 obtain⟨hb1,⟨es,clock,h3,h4,h5⟩,⟨h6,h6'⟩,h7⟩:=h;obtain⟨lx,hx⟩:=keyOf_pt p hp;have hlo:LKOK (dropL L p):=⟨fun e he=>h6 e (List.mem_of_mem_eraseP he),h6'.sublist ((List.eraseP_sublist).map _)⟩;cases hf:L.findIdx? (fun e=>e.1 == p) with
 | none =>
  have hd:dropL L p=L:=by
   unfold dropL;rw[List.eraseP_eq_eraseIdx,hf]
  have hno:∀q∈kvs es,q.1≠ptA p:=by
   intro q hq e;rw[h5]at hq;obtain⟨en,hen,rfl⟩:=List.mem_map.1 hq;have:=List.findIdx?_eq_none_iff.1 hf en hen;rw[ptA_inj (h6 en hen).1.1 hp.1 e]at this;simp at this
  refine⟨es,es,clock,h3,h4,by rw[hd,h5],hlo,fun w' ty hw=>?_⟩;rw[withBlk_same hw];exact run_delete_no kl_point Tryz.underlying97 hw h4 hx hno
 | some j =>
  have hd:dropL L p=L.eraseIdx j:=by
   unfold dropL;rw[List.eraseP_eq_eraseIdx,hf]
  obtain⟨hj,hjk,_⟩:=List.findIdx?_eq_some_iff_getElem.1 hf;have hkey:L[j].1=p:=by simpa using hjk
  have e1:(kvs es)[j]? = some (ptA p,lockA L[j].2):=by rw[h5];unfold encL;rw[List.getElem?_map,List.getElem?_eq_getElem hj];simp [hkey]
  unfold kvs at e1;rw[List.getElem?_map]at e1;obtain⟨me,hme,hmm⟩:=Option.map_eq_some_iff.1 e1;simp only [Prod.mk.injEq]at hmm;refine⟨es,es.eraseIdxIfInBounds j,clock,h3,h4.erase j,?_,hlo,fun w' ty hw=>?_⟩
  ·rw[kvs_erase,h5,hd];unfold encL;rw[map_erase]
  ·exact run_delete_yes kl_point Tryz.underlying97 hw h4 hx (j:=j) (en:=me) (by simpa using hme) hmm.1
theorem kfree_any (g b : Nat) (L : LocksL) (s : Int) (p : PtK) (w : World) (h : LocksAt w g b L s) (hp : PtOK p) (hs : s ≤ 18446744073709551615) (hle : ((lookL L p).getD noLock).1.2 ≤ s) :
  Calls Tryz.prog 46 #[.pointer (some ⟨g,0,none⟩),ptA p] w fun e w'=>e=.returned (.tuple #[coinA ((lookL L p).getD noLock).1,.bool (lookL L p).isSome])∧Touched [g,b] w w'∧LocksAt w' g b (dropL L p) (s - ((lookL L p).getD noLock).1.2):=by
 obtain⟨c,hc,hce,-⟩:=h.look hp;rw[← hce]at hle ⊢;obtain⟨ok,hok⟩:=xe ((lookL L p).isSome);rw[← hok]
 have hlk:∀w',LocksAt w' g b L s→(Instr.lookup 97 (.map (some b)) (ptA p) true).run Tryz.prog w'=.ok (.tuple #[lockA c,.bool ok]) w':=by
  intro w' h';obtain⟨c',_,e,h2⟩:=h'.look hp;rw[hce,← e,hok];exact h2
 obtain⟨es,es',clock,t1,t2,t3,t4,t5⟩:=free_map h hp;obtain⟨L2,hL2⟩:=xe (dropL L p);rw[← hL2]at t3 t4 ⊢;have HT1:=kp t1;have HT2:=kp t2;have HT3:=kp t3;have HT4:=kp t4;have HT5:=kp t5;have HLK:=kp hlk;have HC:=kp h;have HX:=kp (ptV_length hp.1);have HCL:=kp (lockV_length hc);have HC1:=kp (lockV_one c)
 have HCI:=kp (show(lockV c)[32]? = some (.int .u64 c.1.2) by
  have h1:(coinV c.1)[32]? = some (.int .u64 c.1.2):=by unfold coinV;rw[List.getElem?_append_right (by simp [hc.1.1])];simp [hc.1.1]
  have:=lock_coin (x:=c) (j:=32) h1
  simpa using this)
 have HKL:=kp (coinV_length hc.1);have HK1:=kp (coinV_one c.1);have HPC:=kp (fun j u=>lock_coin (x:=c) (j:=j) (u:=u));have hc0:=hc.1.2.1;have HWR:=kp (u64_in (s - c.1.2) ⟨by omega,by omega⟩);clear hok hce hc hp hlk t1 t2 t3 t4 t5 hL2;obtain⟨xs,hxs⟩:=xe (ptV p);obtain⟨cs,hcs⟩:=xe (lockV c);obtain⟨ci,hci⟩:=xe c.1.2;rw[← hci]at hc0 hle HCI HWR ⊢;obtain⟨ks,hks⟩:=xe (coinV c.1);rw[coinA,← hks];rw[← hks]at HKL HK1;rw[← hcs,← hks]at HPC;rw[lockA,← hcs]at HLK;rw[← hcs]at HCL HC1 HCI;rw[ptA,← hxs];rw[ptA,← hxs]at HLK HT5;rw[← hxs]at HX;clear hxs hcs hci hks;obtain⟨z,hz⟩:=xe w.heap.size;have hg:g < z:=by rw[hz];exact h.ltg
 have hb:b < z:=by rw[hz];exact h.ltb
 have HZ:=kp hz;have hgb:=h.ne;have HGB:=kp hgb;clear h hz hgb
 go_enter Tryz.func46,Tryz.ntmps46
 go_wp2_with (with_reducible first|refine wpl_box (o:=⟨some 3,_,_,_,_,_⟩) rfl rfl rfl ?_);intro w1 hb1 hbw1 hsz1;rw[← HZ.o]at hb1 hbw1 hsz1 ⊢;go_wp2_with (with_reducible first|refine wpl_alloc (o:=⟨some 4,_,_,_,_,_⟩) rfl rfl zero_coin ?_);intro w2 hb2 hbw2 hsz2;have HB1:=kp (hb1.below hbw2 (by omega));have HB2:=kp hb2;have HBW:=kp (hbw1.trans (hbw2.mono (by omega)));have HSZ:=kp hsz2;have HC2:=kp (HC.o.below HBW.o hg hb);have HT12:=kp ((HBW.o.block b hb).trans HT1.o);clear hb1 hb2 hbw1 hbw2 hsz1 hsz2;repeat' (first|(with_reducible refine wp_phase (id:=1) (newC w2 118 (lockV noLock) cs) [9,10] [(0,2),(0,2),(0,2),(0,2),(0,2),(0,2),(0,2),(0,2),(0,2),(0,0),(1,1),(0,2)] (by kernel_rfl) (by kernel_rfl) ?_ ?_)|go_values|go_skip|go_guarded|go_step|go_upon|go_back)
 ·exact newC.start
 have HF:=kq (∀k w',newC w2 118 (lockV noLock) cs k w'→w'.cell? ⟨g,0,none⟩=some (.map (some b))) (fun k w' h=>(HC2.o.call (newC.low k w' h)).blk.at_ rfl);have HL:=kq (∀k w',newC w2 118 (lockV noLock) cs k w'→(Instr.lookup 97 (.map (some b)) (.agg xs.toArray) true).run Tryz.prog w'=.ok (.tuple #[.agg cs.toArray,.bool ok]) w') (fun k w' h=>HLK.o w' (HC2.o.call (newC.low k w' h)));have HX1:=kq (∀k w',newC w2 118 (lockV noLock) cs k w'→Blk w' z 69 xs) (fun k w' h=>HB1.o.call (newC.low k w' h));refine ph_value rfl (by first|rfl|go_simp) (fun k_ _ _ w_ hC_=>by first|(go_simp;rfl)|(go_simp;done)|rfl) (fun K hK=>?_);go_simp;refine hK _ ?_;clear hK K;refine ph_value rfl (by first|rfl|go_simp) (fun k_ _ _ w_ hC_=>by first|(go_simp;rfl)|(go_simp;done)|rfl) (fun K hK=>?_);go_simp;refine hK _ ?_;clear hK K;refine ph_value rfl (by first|rfl|go_simp) (fun k_ _ _ w_ hC_=>by first|(go_simp;rfl)|(go_simp;done)|rfl) (fun K hK=>?_);go_simp;refine hK _ ?_;clear hK K;refine ph_value rfl (by first|rfl|go_simp) (fun k_ _ _ w_ hC_=>by have c1:=HF.o _ _ hC_;first|(go_simp;rfl)|(go_simp;done)|rfl) (fun K hK=>?_);go_simp;refine hK _ ?_;clear hK K;refine ph_load rfl rfl rfl row_point (fun k _ _ w h=>HX1.o k w h) rfl HX.o ?_
 (intro K hK;go_simp;refine hK _ ?_;clear hK K)
 refine ph_value rfl (by first|rfl|go_simp) (fun k_ _ _ w_ hC_=>by have c1:=HL.o _ _ hC_;first|(go_simp;rfl)|(go_simp;done)|rfl) (fun K hK=>?_);go_simp;refine hK _ ?_;clear hK K;refine ph_value rfl (by first|rfl|go_simp) (fun k_ _ _ w_ hC_=>by first|(go_simp;rfl)|(go_simp;done)|rfl) (fun K hK=>?_);go_simp;refine hK _ ?_;clear hK K;refine ph_value rfl (by first|rfl|go_simp) (fun k_ _ _ w_ hC_=>by first|(go_simp;rfl)|(go_simp;done)|rfl) (fun K hK=>?_);go_simp;refine hK _ ?_;clear hK K;refine ph_value rfl (by first|rfl|go_simp) (fun k_ _ _ w_ hC_=>by first|(go_simp;rfl)|(go_simp;done)|rfl) (fun K hK=>?_);go_simp;refine hK _ ?_;clear hK K;refine ph_alloc 0 rfl rfl rfl rfl rfl zero_lock newC.lay ?_
 (intro K hK;go_simp;refine hK _ ?_;clear hK K)
 refine ph_store 1 rfl rfl rfl rfl rfl row_lock rfl rfl HCL.o HC1.o (newC.put (lockV_length noLock_ok)) ?_
 (intro K hK;go_simp;refine hK _ ?_;clear hK K)
 refine ph_value rfl (by first|rfl|go_simp) (fun k_ _ _ w_ hC_=>by first|(go_simp;rfl)|(go_simp;done)|rfl) (fun K hK=>?_);go_simp;refine hK _ ?_;clear hK K;refine ph_nil ?_;intro w3 ⟨hl3,hs3,hx3⟩;have H3X:=kp hx3;have H3R:=kp (HB2.o.call hl3);have H3P:=kp (HB1.o.call hl3);have HC3:=kp (HC2.o.call hl3);have HT13:=kp ((hl3.block b (by rw[HSZ.o];omega)).trans HT12.o);have HL3:=kp (Touched.of_below (l:=[g,b]) (by rw[← HZ.o];exact HBW.o.trans (hl3.mono (by rw[HSZ.o];omega))));have HS3:=kq (z+3=w3.heap.size) (by rw[hs3,HSZ.o]);rw[HSZ.o]at H3X ⊢;clear hl3 hs3 hx3 HF HL HX1 HC2 HB1 HB2 HBW HLK HT12;generalize hz1:z+1=z1 at *;have HZ1:=kp hz1;clear hz1;generalize hz2:z1+1=z2 at *;have HZ2:=kp hz2;clear hz2;have h2z:z2=z+2:=by have:=HZ1.o;have:=HZ2.o;omega
 have H2Z:=kp h2z;clear h2z;repeat' (first|(with_reducible refine wp_phase (id:=2) (delK w3 g b es es' clock s) [5] [(0,1),(0,1),(0,1),(0,1),(0,1),(0,0)] (by kernel_rfl) (by kernel_rfl) ?_ ?_)|go_values|go_skip|go_guarded|go_step|go_upon|go_back)
 ·exact⟨Touched.of_below (Drawn.all (Drawn.one w3)),rfl,HT13.o,HC3.o.blk⟩
 have HF:=kq (∀k w',delK w3 g b es es' clock s k w'→w'.cell? ⟨g,0,none⟩=some (.map (some b))) (fun k w' h=>h.2.2.2.at_ rfl);have HX1:=kq (∀k w',delK w3 g b es es' clock s k w'→Blk w' z 69 xs) (fun k w' h=>(h.1.block z H3P.o.lt (by simp;omega)).trans H3P.o);refine ph_value rfl (by first|rfl|go_simp) (fun k_ _ _ w_ hC_=>by first|(go_simp;rfl)|(go_simp;done)|rfl) (fun K hK=>?_);go_simp;refine hK _ ?_;clear hK K;refine ph_value rfl (by first|rfl|go_simp) (fun k_ _ _ w_ hC_=>by first|(go_simp;rfl)|(go_simp;done)|rfl) (fun K hK=>?_);go_simp;refine hK _ ?_;clear hK K;refine ph_value rfl (by first|rfl|go_simp) (fun k_ _ _ w_ hC_=>by first|(go_simp;rfl)|(go_simp;done)|rfl) (fun K hK=>?_);go_simp;refine hK _ ?_;clear hK K;refine ph_value rfl (by first|rfl|go_simp) (fun k_ _ _ w_ hC_=>by have c1:=HF.o _ _ hC_;first|(go_simp;rfl)|(go_simp;done)|rfl) (fun K hK=>?_);go_simp;refine hK _ ?_;clear hK K;refine ph_load rfl rfl rfl row_point (fun k _ _ w h=>HX1.o k w h) rfl HX.o ?_
 (intro K hK;go_simp;refine hK _ ?_;clear hK K)
 refine ph_run 0 rfl rfl rfl (by first|rfl|go_simp) (fun w' hC=>⟨_,by (have hrun:=fun ty=>HT5.o w' ty hC.2.2.1);first|(go_simp;rfl)|(go_simp;exact⟨rfl,rfl⟩)|go_simp,⟨hC.1.grown (withBlk_grown _ _ _) (.inl (by simp)),by rw[withBlk_size,hC.2.1],withBlk_heap hC.2.2.1,hC.2.2.2.grown (withBlk_grown _ _ _) (by simpa using HGB.o)⟩⟩) ?_
 (intro K hK;go_simp;refine hK _ ?_;clear hK K)
 refine ph_nil ?_;intro w4 hC4;have H4X:=kq (Blk w4 z2 118 cs) ((hC4.1.block z2 H3X.o.lt (by have:=H2Z.o;simp;omega)).trans H3X.o);have H4R:=kq (Blk w4 z1 77 (coinV noCoin)) ((hC4.1.block z1 H3R.o.lt (by have:=HZ1.o;simp;omega)).trans H3R.o);have HC4:=kp hC4;have HL4:=kp (HL3.o.trans hC4.1);clear hC4 HF HX1;repeat' (first|(with_reducible refine wp_phase (id:=3) (sumK w4 g b es' clock s (s - ci)) [10] [(0,1),(0,1),(0,1),(0,0),(0,1),(0,1),(0,1),(0,1),(0,1),(0,1),(0,0)] (by kernel_rfl) (by kernel_rfl) ?_ ?_)|go_values|go_skip|go_guarded|go_step|go_upon|go_back)
 ·exact⟨Touched.of_below (Drawn.all (Drawn.one w4)),rfl,HC4.o.2.2.1,HC4.o.2.2.2⟩
 have HF:=kq (∀w',sumK w4 g b es' clock s (s - ci) 0 w'→w'.cell? ⟨g,1,none⟩=some (.int .u64 s)) (fun w' h=>h.2.2.2.at_ rfl);have HX2:=kq (∀k w',sumK w4 g b es' clock s (s - ci) k w'→w'.cell? ⟨z2,32,none⟩=some (.int .u64 ci)) (fun k w' h=>Blk.at_ (show Blk w' z2 118 cs from(h.1.block z2 H4X.o.lt (by have:=H2Z.o;simp;omega)).trans H4X.o) HCI.o);refine ph_value rfl (by first|rfl|go_simp) (fun k_ _ _ w_ hC_=>by first|(go_simp;rfl)|(go_simp;done)|rfl) (fun K hK=>?_);go_simp;refine hK _ ?_;clear hK K;refine ph_value rfl (by first|rfl|go_simp) (fun k_ _ _ w_ hC_=>by first|(go_simp;rfl)|(go_simp;done)|rfl) (fun K hK=>?_);go_simp;refine hK _ ?_;clear hK K;refine ph_value rfl (by first|rfl|go_simp) (fun k_ _ _ w_ hC_=>by first|(go_simp;rfl)|(go_simp;done)|rfl) (fun K hK=>?_);go_simp;refine hK _ ?_;clear hK K;refine ph_value rfl (by first|rfl|go_simp) (fun k_ h1_ h2_ w_ hC_=>by (obtain rfl:k_=0:=Nat.le_zero.1 h2_);(have c1:=HF.o _ hC_);first|rfl|(go_simp;rfl)|go_simp) (fun K hK=>?_);go_simp;refine hK _ ?_;clear hK K;refine ph_value rfl (by first|rfl|go_simp) (fun k_ _ _ w_ hC_=>by first|(go_simp;rfl)|(go_simp;done)|rfl) (fun K hK=>?_);go_simp;refine hK _ ?_;clear hK K;refine ph_value rfl (by first|rfl|go_simp) (fun k_ _ _ w_ hC_=>by first|(go_simp;rfl)|(go_simp;done)|rfl) (fun K hK=>?_);go_simp;refine hK _ ?_;clear hK K;refine ph_value rfl (by first|rfl|go_simp) (fun k_ _ _ w_ hC_=>by have c1:=HX2.o _ _ hC_;first|(go_simp;rfl)|(go_simp;done)|rfl) (fun K hK=>?_);go_simp;refine hK _ ?_;clear hK K;refine ph_value rfl (by first|rfl|go_simp) (fun k_ _ _ w_ hC_=>by have c9:=HWR.o;first|(go_simp;rfl)|(go_simp;done)|rfl) (fun K hK=>?_);go_simp;refine hK _ ?_;clear hK K;refine ph_value rfl (by first|rfl|go_simp) (fun k_ _ _ w_ hC_=>by first|(go_simp;rfl)|(go_simp;done)|rfl) (fun K hK=>?_);go_simp;refine hK _ ?_;clear hK K;refine ph_value rfl (by first|rfl|go_simp) (fun k_ _ _ w_ hC_=>by first|(go_simp;rfl)|(go_simp;done)|rfl) (fun K hK=>?_);go_simp;refine hK _ ?_;clear hK K;refine ph_runs 0 rfl rfl rfl (by first|rfl|go_simp) (fun w' hC=>⟨_,by (have hcl:=hC.2.2.2.at_ (i:=1) rfl);(have hfz:=hC.2.2.2.frozen 1);first|(go_simp;rfl)|(go_simp;exact⟨rfl,rfl⟩)|go_simp,⟨hC.1.grown (grown_set w' g 1 _) (.inl (by simp)),by simpa using hC.2.1,((grown_set w' g 1 (.int .u64 (s - ci))).block b (Array.getElem?_eq_some_iff.1 hC.2.2.1).1 (by simpa using fun e=>HGB.o e.symm)).trans hC.2.2.1,hC.2.2.2.set_ 1 (.int .u64 (s - ci))⟩⟩) ?_
 (intro K hK;go_simp;refine hK _ ?_;clear hK K)
 refine ph_nil ?_;intro w5 hC5;have H5X:=kq (Blk w5 z2 118 cs) ((hC5.1.block z2 H4X.o.lt (by have:=H2Z.o;simp;omega)).trans H4X.o);have H5R:=kq (Blk w5 z1 77 (coinV noCoin)) ((hC5.1.block z1 H4R.o.lt (by have:=HZ1.o;simp;omega)).trans H4R.o);have HL5:=kp (HL4.o.trans hC5.1);have HC5:=kq (LocksAt w5 g b L2 (s - ci)) ⟨hC5.2.2.2,⟨es',clock,hC5.2.2.1,HT2.o,HT3.o⟩,HT4.o,HGB.o⟩;clear hC5 HF HX2;have HMK:=kp (fun j u (hu:ks[j]? = some u)=>H5X.o.at_ (HPC.o j u hu));go_wp2_with (with_reducible first|refine wlm 33 row_coin HMK.o HKL.o ?_|refine wpl_storeb (o:=⟨none,.store _ _ _,_,_,_,_⟩) rfl rfl row_coin H5R.o rfl rfl (coinV_length noCoin_ok) HKL.o HK1.o ?_);intro w6 hb6 hg6 hs6;have H6R:=kp hb6;have HL6:=kp (HL5.o.grown hg6 (.inr (by have:=HZ1.o;have:=HZ.o;omega)))
 have HC6:=kp (show LocksAt w6 g b L2 (s - ci) from by
  obtain⟨q1,⟨e1,c1,q2,q3,q4⟩,q5,q6⟩:=HC5.o
  exact⟨q1.grown hg6 (by have:=HZ1.o;simp;omega),⟨e1,c1,(hg6.block b (Array.getElem?_eq_some_iff.1 q2).1 (by have:=HZ1.o;simp;omega)).trans q2,q3,q4⟩,q5,q6⟩)
 clear hb6 hg6 hs6;go_wp2_with fail;refine ret_cell_tmp rfl row_coin H6R.o rfl HKL.o rfl rfl ?_;exact⟨rfl,HL6.o,HC6.o⟩
open Go.RowKit Go.Maps Go.Sort Go.Shelf
theorem decP_pt{k:PtK}(h:PtOK k):(decP (ptA k)).1=k:=by
 have:ptA k=encPV ⟨k,h⟩:=rfl;rw[this,decP_enc]
theorem kvs_pts{es:Array MapEntry}{L:LocksL}(h:kvs es=encL L)(hl:LKOK L):(es.toList.map dkP).map (·.1)=L.map (·.1):=by
 have e1:(es.toList.map dkP).map (·.1)=(kvs es).map (fun p=>(decP p.1).1):=by unfold kvs;rw[List.map_map,List.map_map];rfl
 rw[e1,h];unfold encL;rw[List.map_map];refine List.map_congr_left fun e he=>?_
 exact decP_pt (hl.1 e he).1
theorem kvs_encP{es:Array MapEntry}{L:LocksL}(h:kvs es=encL L)(hl:LKOK L):∀en∈es.toList,∃p:PtS,en.key=encPV p:=by
 intro en hen;have:(en.key,en.val)∈kvs es:=List.mem_map.2 ⟨en,hen,rfl⟩;rw[h]at this;obtain⟨e,he,hee⟩:=List.mem_map.1 this;exact⟨⟨e.1,(hl.1 e he).1⟩,by simp only [Prod.mk.injEq]at hee;exact hee.1.symm⟩
theorem kall_any (g b : Nat) (L : LocksL) (s : Int) (w : World) (h : LocksAt w g b L s) (hn : L.length ≤ 1000000) :
  Calls Tryz.prog 57 #[.pointer (some ⟨g,0,none⟩)] w fun e w'=>∃(v:Value) (ks:List PtS),e=.returned v∧(ks.map (·.1)).Perm (L.map (·.1))∧(∃ss,ks=sortP ss)∧w'.ownsRow w.heap.size 69 33 v ks.length (ks.flatMap encPt)∧Below w.heap.size w w':=by
 have HH:=kp h;have c1:=h.blk.at_ (i:=0) rfl;clear h
 go_enter Tryz.func57,Tryz.ntmps57
 go_wp2_with fail;refine(kkL_any (some b) w).mono ?_;rintro e w1 ⟨rfl,hm,hb,hlt⟩;have HM:=kp hm;have HB:=kp hb;have HLT:=kp hlt;have HH1:=kp (HH.o.call hb);clear hm hb hlt c1;obtain⟨es,clock,h3,h4,h5⟩:=HH1.o.map;have HP:=kp (kvs_pts h5 HH1.o.ok);have hsz:es.size=L.length:=by rw[← kvs_length,h5];simp [encL]
 have HS:=kp (sfdP_any 111 #[.pointer (some ⟨w.heap.size,0,none⟩)] (enters_of Tryz.func111 (by kernel_rfl) rfl) _ es.size (by omega) w1 (kkL_gives 1 (by omega) w.heap.size b clock es (kvs_encP h5 HH1.o.ok) h4 w1 HLT.o HM.o h3));clear h3 h4 h5 hsz;obtain⟨zz,hzz⟩:=xe w.heap.size;rw[← hzz]at HS HB ⊢;have HZ:=kp hzz;clear hzz;go_wp2_with fail;refine HS.o.mono ?_;rintro e w2 ⟨v,ss,rfl,hS,hrow,hnil,hb2⟩;have HR2:=kp hrow;have HB2:=kp hb2;have HS2:=kp hS;clear hS hrow hnil hb2 HS;go_wp2_with fail;go_ret
 refine⟨v,sortP ss,rfl,?_,⟨ss,rfl⟩,?_,?_⟩
 ·rw[← HP.o];exact((sortP_perm ss).trans HS2.o).map _
 ·rw[sortP_len];have:=HR2.o;exact⟨this.1,this.2.imp id (fun⟨a,b',c,h1,h2,h3⟩=>⟨a,b',c,h1,Nat.le_trans HB.o.size h2,h3⟩)⟩
 ·have hq:=HB.o.trans (HB2.o.mono (by rw[HZ.o];exact HB.o.size));rw[HZ.o]at hq;exact hq
theorem key_idk:WideMaps.KeyLaw Tryz.prog 46:=deep_law_laid laid_out (m:=3) (by omega) (of_decide_eq_true (by kernel_rfl)) (by kernel_rfl) (by kernel_rfl)
theorem idk_eq(a b:List UInt8)(ha:a.length=32)(hb:b.length=32):∀w,(Op.equalIn 10000 46 (.agg (a.map B).toArray) (.agg (b.map B).toArray)).run Tryz.prog w=.ok (decide (a=b)) w:=by
 obtain⟨n,hn⟩:∃n,Tryz.prog.types.size=n+3:=⟨Tryz.prog.types.size - 3,by kernel_rfl⟩;obtain⟨r,hr,hq⟩:=eql_deep key_idk (m:=3) (by omega) (by kernel_rfl) (by kernel_rfl) (by kernel_rfl) (a.map B) (b.map B) (by rw[List.length_map,ha,cells_id]) (by rw[List.length_map,hb,cells_id]) (by rw[hn];exact keyLits_id _ _ ha) (by rw[hn];exact keyLits_id _ _ hb)
 have:r=decide (a=b):=by
  rw[Bool.eq_iff_iff,hr,decide_eq_true_eq];exact⟨map_B_inj,fun h=>by rw[h]⟩
 rw[← this];exact hq
theorem lookup0_nok {P : Program} {w : World} {t k e : TypeId} {es : Array MapEntry} {clock b : Nat} {x : Value} {lx : Lit} (K : WideMaps.KeyLaw P k) (ht : P.underlying t = some (.map k e)) (hb : w.heap[b]? = some (.map es clock)) (h : MapOK P k es clock) (hx : keyOf P k x = some lx) (hno : ∀ p ∈ kvs es, p.1 ≠ x)
  {z:Value} (hz:∀w,(zeroValue e).run P w=.ok z w):(Instr.lookup t (.map (some b)) x false).run P w=.ok z w:=by
 simp [Instr.lookup,run_underlying ht,MapKept.run_getObj_map hb,K.check w _ hx,h.find_no K hx hno w,hz]
theorem lookup0_yesk {P : Program} {w : World} {t k e : TypeId} {es : Array MapEntry} {clock b : Nat} {x : Value} {lx : Lit} (K : WideMaps.KeyLaw P k) (ht : P.underlying t = some (.map k e)) (hb : w.heap[b]? = some (.map es clock)) (h : MapOK P k es clock) (hx : keyOf P k x = some lx) {j : Nat} {en : MapEntry} (hj : es[j]? = some en) (hk : en.key = x) :
  (Instr.lookup t (.map (some b)) x false).run P w=.ok en.val w:=by
 simp [Instr.lookup,run_underlying ht,MapKept.run_getObj_map hb,K.check w _ hx,h.find_yes K hx hj hk w]
theorem LocksAt.look0 {w : World} {g b : Nat} {L : LocksL} {s : Int} (h : LocksAt w g b L s) {p : PtK} (hp : PtOK p) :
  ∃c:LockV,LockOK c∧c=(lookL L p).getD noLock∧(Instr.lookup 97 (.map (some b)) (ptA p) false).run Tryz.prog w=.ok (lockA c) w:=by
 obtain⟨hb1,⟨es,clock,h3,h4,h5⟩,⟨h6,h6'⟩,h7⟩:=h;obtain⟨lx,hx⟩:=keyOf_pt p hp;unfold lookL;cases hf:L.find? (fun e=>e.1 == p) with
 | none =>
  refine⟨noLock,noLock_ok,rfl,?_⟩;refine lookup0_nok kl_point Tryz.underlying97 h3 h4 hx ?_ zeroV_lock;intro q hq e;rw[h5]at hq;obtain⟨en,hen,rfl⟩:=List.mem_map.1 hq;have:=List.find?_eq_none.1 hf en hen;exact this (by simpa using ptA_inj (h6 en hen).1.1 hp.1 e)
 | some en =>
  have hmem:=List.mem_of_find?_eq_some hf;have hkey:en.1=p:=by simpa using List.find?_some hf
  refine⟨en.2,(h6 en hmem).2,rfl,?_⟩;obtain⟨j,hj,hje⟩:=List.getElem_of_mem hmem;have e1:(kvs es)[j]? = some (ptA en.1,lockA en.2):=by rw[h5];unfold encL;rw[List.getElem?_map,List.getElem?_eq_getElem hj,hje];rfl
  unfold kvs at e1;rw[List.getElem?_map]at e1;obtain⟨me,hme,hmm⟩:=Option.map_eq_some_iff.1 e1;simp only [Prod.mk.injEq]at hmm;have:=lookup0_yesk kl_point Tryz.underlying97 h3 h4 hx (j:=j) (en:=me) (by simpa using hme) (by rw[hmm.1,hkey]);rw[hmm.2]at this;exact this
theorem fld_lid{x:LockV}(h:LockOK x)(w:World):(Instr.field 118 (.agg (lockV x).toArray) 1).run Tryz.prog w=.ok (.agg (x.2.map B).toArray) w:=by
 unfold Instr.field;rw[Sem.run_bind,run_underlying Tryz.underlying118];simp [part,asAgg,sizeOf,typeInfo];have hi:(Tryz.prog.info? 46).map (·.size)=some 32:=by kernel_rfl
 obtain⟨i,h1,h2⟩:=Option.map_eq_some_iff.1 hi;have l1:=coinV_length h.1;have l2:(x.2.map B).length=32:=by rw[List.length_map,h.2]
 have e:List.take 32 (List.drop 33 (lockV x))=x.2.map B:=by
  unfold lockV;rw[List.drop_append_of_le_length (by omega),List.drop_of_length_le (by omega),List.nil_append,List.take_of_length_le (by omega)]
 simp [h1,h2,e]
theorem of1_any (g b : Nat) (L : LocksL) (s : Int) (p : PtK) (id : List UInt8) (Bl Bi : Nat) (w : World) (h : LocksAt w g b L s) (hp : PtOK p) (hi : id.length = 32) (hbl : w.cell? ⟨Bl, 0, none⟩ = some (.pointer (some ⟨g, 0, none⟩))) (hbi : Blk w Bi 46 (id.map B)) :
  Calls Tryz.prog 58 #[ptA p,.pointer (some ⟨Bl,0,none⟩),.pointer (some ⟨Bi,0,none⟩)] w fun e w'=>e=.returned (.bool !(decide (((lookL L p).getD noLock).2=id)))∧Below w.heap.size w w':=by
 obtain⟨c,hc,hce,-⟩:=h.look0 hp;rw[← hce]
 have hlk:∀w',LocksAt w' g b L s→(Instr.lookup 97 (.map (some b)) (ptA p) false).run Tryz.prog w'=.ok (lockA c) w':=by
  intro w' h';obtain⟨c',_,e,h2⟩:=h'.look0 hp;rw[hce,← e];exact h2
 have HLK:=kp hlk;have HC:=kp h;have HX:=kp (ptV_length hp.1);have HFD:=kp (fun w=>fld_lid hc w);have HEQ:=kp (idk_eq c.2 id hc.2 hi);have HIL:=kq ((id.map B).length=32) (by rw[List.length_map,hi]);have HBI:=kp hbi;have HBL:=kp hbl;obtain⟨r,hr⟩:=xe (decide (c.2=id));rw[← hr]at HEQ ⊢;clear hce hc hlk hi hbi hbl hr;obtain⟨xs,hxs⟩:=xe (ptV p);obtain⟨cs,hcs⟩:=xe (lockV c);obtain⟨is,his⟩:=xe (c.2.map B);obtain⟨js,hjs⟩:=xe (id.map B);rw[lockA,← hcs]at HLK;rw[← hcs,← his]at HFD;rw[← his,← hjs]at HEQ;rw[← hjs]at HIL HBI;rw[ptA,← hxs];rw[ptA,← hxs]at HLK;rw[← hxs]at HX;clear hxs hcs his hjs hp;obtain⟨z,hz⟩:=xe w.heap.size;have HZ:=kp hz;rw[← hz];clear h hz
 go_enter Tryz.func58,Tryz.ntmps58
 go_wp2_with (with_reducible first|refine wpl_box (o:=⟨some 3,_,_,_,_,_⟩) rfl rfl rfl ?_);intro w1 hb1 hbw1 hsz1;have HC1:=kp (HC.o.call hbw1);have HI1:=kp (HBI.o.call hbw1);have HL1:=kp (bcell hbw1 HBL.o);rw[← HZ.o]at hb1 hbw1 hsz1 ⊢;have HB1:=kp hb1;have HBW:=kp hbw1;have HS1:=kq (z≤w1.heap.size) (by omega);clear hb1 hbw1 hsz1 HC HBI HBL;go_wp2_with fail;repeat' (first|(with_reducible refine wp_phase (id:=1) (fun(_:Nat) w'=>Below w1.heap.size w1 w') [] [(0,0),(0,0),(0,0),(0,0),(0,0),(0,0),(0,0),(0,0),(0,0),(0,0)] (by kernel_rfl) (by kernel_rfl) ?_ ?_)|go_values|go_skip|go_guarded|go_step|go_upon|go_back)
 ·exact Drawn.all (Drawn.one w1)
 have HF0:=kq (∀w',Below w1.heap.size w1 w'→w'.cell? ⟨Bl,0,none⟩=some (.pointer (some ⟨g,0,none⟩))) (fun w' h=>bcell h HL1.o);have HF:=kq (∀w',Below w1.heap.size w1 w'→w'.cell? ⟨g,0,none⟩=some (.map (some b))) (fun w' h=>(HC1.o.call h).blk.at_ rfl);have HL:=kq (∀w',Below w1.heap.size w1 w'→(Instr.lookup 97 (.map (some b)) (.agg xs.toArray) false).run Tryz.prog w'=.ok (.agg cs.toArray) w') (fun w' h=>HLK.o w' (HC1.o.call h));refine ph_value rfl (by first|rfl|go_simp) (fun k_ _ _ w_ hC_=>by have c1:=HF0.o _ hC_;first|(go_simp;rfl)|(go_simp;done)|rfl) (fun K hK=>?_);go_simp;refine hK _ ?_;clear hK K;refine ph_value rfl (by first|rfl|go_simp) (fun k_ _ _ w_ hC_=>by first|(go_simp;rfl)|(go_simp;done)|rfl) (fun K hK=>?_);go_simp;refine hK _ ?_;clear hK K;refine ph_value rfl (by first|rfl|go_simp) (fun k_ _ _ w_ hC_=>by first|(go_simp;rfl)|(go_simp;done)|rfl) (fun K hK=>?_);go_simp;refine hK _ ?_;clear hK K;refine ph_value rfl (by first|rfl|go_simp) (fun k_ _ _ w_ hC_=>by have c1:=HF.o _ hC_;first|(go_simp;rfl)|(go_simp;done)|rfl) (fun K hK=>?_);go_simp;refine hK _ ?_;clear hK K;refine ph_load rfl rfl rfl row_point (fun k _ _ w h=>HB1.o.call h) rfl HX.o ?_
 (intro K hK;go_simp;refine hK _ ?_;clear hK K)
 refine ph_value rfl (by first|rfl|go_simp) (fun k_ _ _ w_ hC_=>by have c1:=HL.o _ hC_;first|(go_simp;rfl)|(go_simp;done)|rfl) (fun K hK=>?_);go_simp;refine hK _ ?_;clear hK K;refine ph_value rfl (by first|rfl|go_simp) (fun k_ _ _ w_ hC_=>by have c1:=HFD.o w_;first|(go_simp;rfl)|(go_simp;done)|rfl) (fun K hK=>?_);go_simp;refine hK _ ?_;clear hK K;refine ph_load rfl rfl rfl row_idk (fun k _ _ w h=>HI1.o.call h) rfl HIL.o ?_
 (intro K hK;go_simp;refine hK _ ?_;clear hK K)
 refine ph_value rfl (by first|rfl|go_simp) (fun k_ _ _ w_ hC_=>by have c1:=HEQ.o w_;first|(go_simp;rfl)|(go_simp;done)|rfl) (fun K hK=>?_);go_simp;refine hK _ ?_;clear hK K;refine ph_value rfl (by first|rfl|go_simp) (fun k_ _ _ w_ hC_=>by first|(go_simp;rfl)|(go_simp;done)|rfl) (fun K hK=>?_);go_simp;refine hK _ ?_;clear hK K;refine ph_nil ?_;intro w2 hl2;have HB2:=kp (HBW.o.trans (hl2.mono HS1.o));clear hl2;go_wp2_with fail;go_ret
 exact⟨rfl,HB2.o⟩
end Go.Proofs.YtnnjjbkdjkjnpaaGreatDoor

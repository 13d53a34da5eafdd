/- slices.AppendSeq(nil,seq),slices.Collect(seq) of outputs,against whatever iterator value. -/
import Derived.Test.YtnnjjbkdjkjnpaaGreatDoorSpendPlaysRb18
import Derived.RangeFuncGives
set_option linter.unusedSimpArgs false
set_option linter.unusedVariables false
set_option maxRecDepth 100000
set_option maxHeartbeats 16000000
namespace Go.Proofs.YtnnjjbkdjkjnpaaGreatDoor
open Go.RowKit Go.Maps Go.Sort Go.Shelf
def encPV(p:PtS):Value:=.agg (encPt p).toArray
theorem encPV_inj{p q:PtS}(h:encPV p=encPV q):p=q:=encPt_inj (by unfold encPV at h;injection h with h;exact congrArg Array.toList h)
def rfOf:Code→Option (Code×Code)
 | .rangeFunc _ _ a c=>some (a,c)
 | .seq a b=>match rfOf a with
  | some x=>some x
  | none=>rfOf b
 | .cond _ a b=>match rfOf a with
  | some x=>some x
  | none=>rfOf b
 | .block _ a=>rfOf a
 | .loop a=>rfOf a
 | .scope a=>rfOf a
 | _=>none
noncomputable def apAs:Code:=(((Tryz.f122.body.map rfOf).getD none).getD (.skip,.skip)).1
noncomputable def apBd:Code:=(((Tryz.f122.body.map rfOf).getD none).getD (.skip,.skip)).2
noncomputable def apRec (fn:FuncId) (sv:Value) (Bs D:Nat) (st:LoopState) (pend:Option Code):Loop:=
 { state:=st,pending:=pend,fn,tmps:=#[.slice none 0 0,sv,.pointer (some ⟨Bs,0,none⟩),undef,.slice none 0 0,undef,sv,undef,undef,undef,undef,undef,undef],params:=#[7],assign:=apAs,body:=apBd,defers:=D }
structure ApAt (w0:World) (fn:FuncId) (sv:Value) (Bs l D:Nat) (ss:List PtS) (W:World):Prop where
 box:∃v,W.heap[Bs]? = some (.cells #[v] 55 (0,0))∧W.ownsRow w0.heap.size 69 33 v ss.length (ss.flatMap encPt)∧(v=.slice none 0 0↔ss=[])
 L:W.heap[l]? = some (.loop (apRec fn sv Bs D .ready none))
 K:W.heap[D]? = some (.deferred (some []))
 below:Below w0.heap.size w0 W
theorem ap_abides(w0:World)(fn:FuncId)(sv:Value)(Bs l D B:Nat)(hB:w0.heap.size≤B):AbidesFrom B (ApAt w0 fn sv Bs l D):=fun s W W' row h hg hrow=>by
 have hrow':∀r,row=some r→∃o:Obj,W.heap[r]? = some o∧o.isWalk=true:=fun r e=>(hrow r e).2
 obtain⟨v,hv,hr,hn⟩:=h.box
 exact⟨⟨v,(grownBy_keeps hg hrow' hv rfl).trans hv,ownsRow_abides_a hr hg hrow',hn⟩,(grownBy_keeps hg hrow' h.L rfl).trans h.L,(grownBy_keeps hg hrow' h.K rfl).trans h.K,
  h.below.grown hg h.below.size (fun k e=>Nat.le_trans hB (hrow k e).1)⟩
theorem info_pt2:∃i z,Tryz.prog.info? 69=some i∧i.zero=some z∧i.size=33∧i.bytes=40∧z.cells.size=33∧0 < 33:=el_pt.hi
theorem zero_pt:(Tryz.prog.info? 69).map (·.zero)=some (some (.agg (ptV (pt 0)).toArray)):=by kernel_rfl
theorem grownBy_up{a b:World}{r:Option Nat}(h:a.grownBy b none):a.grownBy b r:=⟨h.os,h.tape,h.output,h.size,fun k hk _=>h.block k hk (by simp)⟩
theorem grownBy_trans0{a b c:World}{r:Option Nat}(h:a.grownBy b r)(k:b.grownBy c r):a.grownBy c r:=
 ⟨k.os.trans h.os,k.tape.trans h.tape,k.output.trans h.output,Nat.le_trans h.size k.size,fun i hi hn=>(k.block i (Nat.lt_of_lt_of_le hi h.size) hn).trans (h.block i hi hn)⟩
theorem own_new{W w':World}{base:Nat}{e:TypeId}{size:Nat}{v:Value}{k:Nat}{xs:List Value}{q:Nat}(h:W.ownsRow base e size v k xs)(hg:W.grownBy w' (some q))(hq:W.heap.size≤q):w'.ownsRow base e size v k xs:=
 h.kept hg (by
  rcases h.2 with ⟨rfl,_⟩|⟨g,cap,cur,rfl,_,hgb,_⟩
  ·exact .inl rfl
  ·refine .inr fun e'=>?_
   have:g=q:=by simpa [Value.ownBlock] using e'
   have:=(Array.getElem?_eq_some_iff.1 hgb).1
   omega)
theorem ap_yield (F : Fence) (m : Nat) (w0 : World) (fn : FuncId) (hfn : F.fn fn) (sv : Value) (Bs l D : Nat) (hBl : Bs ≠ l) (hDl : D ≠ l) (hDB : D ≠ Bs) (h0B : w0.heap.size ≤ Bs) (h0l : w0.heap.size ≤ l)
  (N:Nat) (hN:N≤1000000) (ss:List PtS) (x:PtS) (W:World) (h:ApAt w0 fn sv Bs l D ss W) (hlen:ss.length < N) :
  YieldAt F m Tryz.prog l #[encPV x] W fun e W'=>e=.returned (.bool true)∧ApAt w0 fn sv Bs l D (ss++[x]) W'∧KeepsWalks W W':=by
 have hne:(55:Nat)≠69:=by decide
 obtain⟨i0,z,hi,hz0,hz1,hz2,hz3,_⟩:=info_pt2;obtain⟨v,hv,hrow,_⟩:=h.box;have hml:(1000000:Nat)≤maxLen:=by decide
 refine⟨fn,#[.slice none 0 0,sv,.pointer (some ⟨Bs,0,none⟩),undef,.slice none 0 0,undef,sv,encPV x,undef,undef,undef,undef,undef],apAs,apBd,by simpa [apRec] using run_yield (P:=Tryz.prog) (args:=#[encPV x]) h.L rfl,roundIn_of_wpIn hfn ?_⟩;have HX:=kp (encPt_len x);have HX1:=kp (encPt_one x);unfold encPV;obtain⟨xs,hxs⟩:=xe (encPt x);have HXE:=kp hxs;rw[← hxs]at HX HX1 ⊢;have HH:=kp h;have HROW:=kp hrow;have HVV:=kp hv;have HZP:=kp (ptV_length (pt_ok 0 (by decide)).1);clear hxs h hrow hv
 conv=>arg 4;whnf
 gi_wp2_with (first|(with_reducible refine wpi_alloc (o:=⟨some 5,_,_,_,_,_⟩) rfl rfl zero_pt ?_)|gi_round_op_a)
 intro V1 hb1 hV1;have hg1:W.grownBy V1 none:=by rw[hV1];exact World.grownBy_alloc W _ none
 have hkw1:KeepsWalks W V1:=by rw[hV1];exact KeepsWalks.alloc _ _
 have HB1:=kp hb1;obtain⟨gv,hgv⟩:=xe W.heap.size;rw[← hgv]at HB1 ⊢;have HGV:=kp hgv;clear hb1 hV1 hgv
 gi_wp2_with (first|(with_reducible refine wpi_storeb (o:=⟨none,.store _ _ _,_,_,_,_⟩) rfl rfl row_point HB1.o rfl rfl HZP.o HX.o HX1.o ?_)|gi_round_op_a)
 intro V2 hb2 hg2 hsz2;have HB2:=kp hb2;have hgW2:W.grownBy V2 (some W.heap.size):=by rw[← HGV.o];exact grownBy_trans0 (grownBy_up hg1) hg2
 have hkw2:KeepsWalks W V2:=hkw1.trans (KeepsWalks.of_grownBy hg2 (fun j o hj ho=>by cases hj;rw[HB1.o]at ho;cases ho;rfl));clear hb2 hg2 hsz2 hg1 hkw1 HB1;have hold:∀{k:Nat} {o:Obj},W.heap[k]? = some o→V2.heap[k]? = some o:=fun {k o} hk=>(hgW2.block k (Array.getElem?_eq_some_iff.1 hk).1 (fun e=>by injection e with e;have:=(Array.getElem?_eq_some_iff.1 hk).1;omega)).trans hk
 have hL0:V2.heap[l]? = some (.loop (apRec fn sv Bs D .ready none)):=hold HH.o.L;have hv0:V2.heap[Bs]? = some (.cells #[v] 55 (0,0)):=hold HVV.o;have hK0:V2.heap[D]? = some (.deferred (some [])):=hold HH.o.K;have hrow0:V2.ownsRow w0.heap.size 69 33 v ss.length (ss.flatMap encPt):=own_new HROW.o hgW2 (Nat.le_refl _);have hb0:Below w0.heap.size w0 V2:=HH.o.below.grown hgW2 HH.o.below.size (fun k e=>by cases e;exact HH.o.below.size);have hl:l < V2.heap.size:=(Array.getElem?_eq_some_iff.1 hL0).1;have hgl:gv≠l:=fun e=>by rw[← e,HB2.o]at hL0;cases hL0
 have hgB:gv≠Bs:=fun e=>by rw[← e,HB2.o]at hv0;injection hv0 with h1;injection h1 with _ h2;exact hne h2.symm
 have hbr:=run_beginRound (P:=Tryz.prog) hL0 rfl;obtain⟨W2,hW2⟩:∃W2,V2.putObj l (.loop { apRec fn sv Bs D .ready none with state:=.busy })=W2:=⟨_,rfl⟩;rw[hW2]at hbr;have hg2:V2.grownBy W2 (some l):=by rw[← hW2];exact grownBy_putObj_a _ _ _
 have hk2:KeepsWalks V2 W2:=by rw[← hW2];exact KeepsWalks.putObj _ hL0 rfl
 have hv2:W2.heap[Bs]? = some (.cells #[v] 55 (0,0)):=by rw[← hW2];exact(World.putObj_heap_other hBl).trans hv0
 have hK2:W2.heap[D]? = some (.deferred (some [])):=by rw[← hW2];exact(World.putObj_heap_other hDl).trans hK0
 have hL2:W2.heap[l]? = some (.loop { apRec fn sv Bs D .ready none with state:=.busy }):=by rw[← hW2];exact World.putObj_heap_same hl
 have hrow2:W2.ownsRow w0.heap.size 69 33 v ss.length (ss.flatMap encPt):=hrow0.kept hg2 (ownsRow_ne_a hrow0 hL0 (fun cur e=>by cases e));have hb2:Below w0.heap.size w0 W2:=hb0.grown hg2 hb0.size (fun k e=>by cases e;exact h0l);have HBV:=kq (Blk W2 gv 69 xs) (HB2.o.grown hg2 (fun e=>hgl (Option.some.inj e)));have hkW2:KeepsWalks W W2:=hkw2.trans hk2;obtain⟨hc2,hf2⟩:=cell_of_box_a hv2;have hBlt:Bs < W2.heap.size:=(Array.getElem?_eq_some_iff.1 hv2).1;have hl2:l < W2.heap.size:=(Array.getElem?_eq_some_iff.1 hL2).1;have hDlt:D < W2.heap.size:=(Array.getElem?_eq_some_iff.1 hK2).1;have HV2:=kp hv2;have HK2:=kp hK2;have HL2:=kp hL2;have HR2:=kp hrow2;have HBB:=kp hb2;have HKW:=kp hkW2;have HLT:=kq (Bs < W2.heap.size∧l < W2.heap.size∧D < W2.heap.size) ⟨hBlt,hl2,hDlt⟩
 have HNE:=kp (show ∀(j:Nat) (o:Obj),W2.heap[j]? = some o→(∀cur,o≠.cells cur 69 (0,0))→some j≠v.ownBlock from fun j o hj hno=>by
  rcases ownsRow_ne_a hrow2 hj hno with e|e
  ·rw[e];simp
  ·exact fun e'=>e e'.symm)
 have HHI:=kp hi;have HHZ:=kp hz0;have HZ1:=kp hz1;have HZ2:=kp hz2;have HZ3:=kp hz3;have HNEQ:=kp hne;clear hW2 hold hL0 hv0 hK0 hrow0 hb0 hl hg2 hk2 hv2 hK2 hL2 hrow2 hb2 hkw2 hgW2 HB2 hkW2 hBlt hl2 hDlt hi hz0 hz1 hz2 hz3 hne hgl hgB HVV HROW
 gi_wp2
 clear hbr
 conv=>arg 4;whnf
 gi_wp2_with (first|(with_reducible refine wpi_loadb (o:=⟨some 9,_,_,_,_,_⟩) rfl rfl row_point HBV.o rfl HX.o ?_)|(refine wpi_row1 (o:=⟨some 10,.buildSlice _ _ _,_,_,_,_⟩) rfl rfl el_pt (by first|rfl|(go_simp;done)) HX.o (by omega) ?_)|gi_round_op_a)
 intro W3 hb3 hW3;have HW3:=kp hW3;have hsrc:∀(j:Nat) (u:Value),xs[j]? = some u→W3.cell? ((⟨W2.heap.size,0,none⟩:Addr).add j)=some u:=by rw[hW3];exact cell_row_new W2 xs 69
 have hrow3:W3.ownsRow w0.heap.size 69 33 v ss.length (ss.flatMap encPt):=by rw[hW3];exact HR2.o.alloc _
 have hw3s:W3.heap.size=W2.heap.size+1:=by rw[hW3];simp
 have hlow3:∀k,k < W2.heap.size→W3.heap[k]? = W2.heap[k]?:=fun k hk=>by rw[hW3];exact Below.heap_alloc _ _ k hk
 have hkw3:KeepsWalks W2 W3:=by rw[hW3];exact KeepsWalks.alloc _ _
 have hb30:Below w0.heap.size w0 W3:=by rw[hW3];exact HBB.o.alloc HBB.o.size _
 have HSRC:=kp hsrc;have HR3:=kp hrow3;have HB3:=kp hb30;have HLOW3:=kp hlow3;have HKW3:=kp hkw3;have HS3:=kp hw3s;generalize hgx:W2.heap.size=gx at HSRC HLOW3 HS3 ⊢;have HGX:=kp hgx;clear hb3 hW3 hsrc hrow3 hb30 hlow3 hkw3 hw3s hgx
 gi_wp2_with (first
  | (gi_at_builtin; refine wpListIn_append_own _ rfl _ _ 55 rfl w0.heap.size 69 i0 z 33 40 Tryz.underlying55 HHI.o HHZ.o HZ1.o HZ2.o HZ3.o (by decide) v ss.length (ss.flatMap encPt) rfl HR3.o ⟨gx, 0, none⟩ 1 1 xs rfl (by rw [HX.o]) HSRC.o HX1.o (by omega) (by omega) HB3.o.size ?_
     intro v' w3 hown' hg3 hnil3;have hv3:w3.heap[Bs]? = some (.cells #[v] 55 (0,0)):=(hg3.block Bs (by have:=HLT.o.1;have:=HS3.o;have:=HGX.o;omega) (HNE.o _ _ HV2.o (fun cur e=>by injection e with _ e2;exact HNEQ.o e2))).trans ((HLOW3.o Bs (by have:=HLT.o.1;have:=HGX.o;omega)).trans HV2.o);obtain⟨hc3,hf3⟩:=cell_of_box_a hv3
     obtain⟨g',cap',cur',rfl,hbase',hgb',hr1,hr2,hr3,hr4⟩:∃g' cap' cur',v'=.slice (some ⟨g',0,none⟩) (ss.length+1) cap'∧w0.heap.size≤g'∧w3.heap[g']? = some (.cells cur' 69 (0,0))∧ss.length+1≤cap'∧cap'≤maxLen∧cur'.size=cap'*33∧cur'.toList.take ((ss.length+1)*33)=ss.flatMap encPt++xs:=by
      rcases hown'.2 with ⟨_,h0⟩|h'
      ·exact absurd h0 (by omega)
      ·exact h'
     go_frame)
  | gi_round_op_a)
 have hg3':W3.grownBy w3 v.ownBlock:=hg3;have hL3:w3.heap[l]? = some (.loop { apRec fn sv Bs D .ready none with state:=.busy }):=(hg3'.block l (by have:=HLT.o.2.1;have:=HS3.o;have:=HGX.o;omega) (HNE.o _ _ HL2.o (fun cur e=>by cases e))).trans ((HLOW3.o l (by have:=HLT.o.2.1;have:=HGX.o;omega)).trans HL2.o);have hK3:w3.heap[D]? = some (.deferred (some [])):=(hg3'.block D (by have:=HLT.o.2.2;have:=HS3.o;have:=HGX.o;omega) (HNE.o _ _ HK2.o (fun cur e=>by cases e))).trans ((HLOW3.o D (by have:=HLT.o.2.2;have:=HGX.o;omega)).trans HK2.o);obtain⟨w4,hw4⟩:∃w4,w3.setCell ⟨Bs,0,none⟩ (.slice (some ⟨g',0,none⟩) (ss.length+1) cap')=w4:=⟨_,rfl⟩;rw[hw4];have hg4:w3.grownBy w4 (some Bs):=by rw[← hw4];exact grownBy_setCell0_a _ _ _
 have hv4:w4.heap[Bs]? = some (.cells #[.slice (some ⟨g',0,none⟩) (ss.length+1) cap'] 55 (0,0)):=by rw[← hw4];exact heap_setCell_box_a _ hv3
 have hL4:w4.heap[l]? = some (.loop { apRec fn sv Bs D .ready none with state:=.busy }):=(hg4.block l (Array.getElem?_eq_some_iff.1 hL3).1 (fun e=>hBl (by cases e;rfl))).trans hL3;have hK4:w4.heap[D]? = some (.deferred (some [])):=(hg4.block D (Array.getElem?_eq_some_iff.1 hK3).1 (fun e=>hDB (by cases e;rfl))).trans hK3;have hrow4:=hown'.kept hg4 (ownsRow_ne_a hown' hv3 (fun cur e=>by injection e with _ e2;exact HNEQ.o e2));have hl4:l < w4.heap.size:=(Array.getElem?_eq_some_iff.1 hL4).1;have hb3:Below w0.heap.size w0 w3:=HB3.o.grown hg3' HB3.o.size (fun k e=>(HR3.o.lt k e).1);have hb4:Below w0.heap.size w0 w4:=hb3.grown hg4 hb3.size (fun k e=>by cases e;exact h0B);have hk4:KeepsWalks W w4:=((HKW.o.trans HKW3.o).trans (KeepsWalks.of_grownBy hg3' (ownsRow_not_walk_a HR3.o))).trans (by rw[← hw4];exact KeepsWalks.setCell _ _ _);clear hw4;refine⟨_,_,run_endRound none hL4,rfl,⟨⟨_,(World.putObj_heap_other hBl).trans hv4,?_,by simp⟩,World.putObj_heap_same hl4,(World.putObj_heap_other hDl).trans hK4,hb4.grown (grownBy_putObj_a _ _ _) hb4.size (fun k e=>by cases e;exact h0l)⟩,hk4.trans (KeepsWalks.putObj _ hL4 rfl)⟩;have:=hrow4.kept (grownBy_putObj_a w4 l (.loop { { apRec fn sv Bs D .ready none with state:=.busy } with state:=if(none:Option Code).isNone then .ready else .done,pending:=none })) (ownsRow_ne_a hrow4 hL4 (fun cur e=>by cases e));rw[HXE.o]at this;simpa using this
theorem ap_in (F : Fence) (n : Nat) (h11 : F.fn 122) (hro : F.round = none) (hn : 2 ≤ n) (g : Nat) (lb : Array Value) (hFg : F.fn g) (eg : ∀ args w, (callFunc g args).run Tryz.prog w = .ok (.enter g args) w)
  (S:List PtS→Prop) (N:Nat) (hN:N≤1000000) (w:World) (hseq:SeqGives F (n - 1) Tryz.prog g lb encPV S N w) :
  CallsIn F n Tryz.prog 122 #[.slice none 0 0,.func (.func g) #[] lb] w fun e w'=>∃(v:Value) (ss:List PtS),e=.returned v∧S ss∧w'.ownsRow w.heap.size 69 33 v ss.length (ss.flatMap encPt)∧(v=.slice none 0 0↔ss=[])∧Below w.heap.size w w':=by
 have h1:1≤n:=by omega
 refine callsIn_of_wp_marks Tryz.func122 rfl h11 ?_ hro;simp only [Tryz.ntmps122,List.size_toArray,List.length_cons,List.length_nil,Nat.reduceAdd,Nat.reduceSub,Array.replicate_succ,Array.replicate_zero,List.push_toArray,List.append_toArray,List.nil_append,List.cons_append]
 gi_wp2
 refine wpIn_rangeFunc ?_;intro fn hfn;rw[hro];obtain⟨W0,hW0⟩:∃W0,w.alloc (.cells #[.slice none 0 0] 55)=W0:=⟨_,rfl⟩;have hs0:W0.heap.size=w.heap.size+1:=by rw[← hW0];simp
 have hv0:W0.heap[w.heap.size]? = some (.cells #[.slice none 0 0] 55 (0,0)):=by rw[← hW0];exact World.alloc_heap_new w _
 have hb0:Below w.heap.size w W0:=by rw[← hW0];exact(Below.refl _ w).alloc (Nat.le_refl _) _
 rw[hW0];obtain⟨W1,hW1⟩:∃W1,(W0.alloc (.deferred (some []))).alloc (.loop (apRec fn (.func (.func g) #[] lb) w.heap.size W0.heap.size .ready none))=W1:=⟨_,rfl⟩
 have hold:∀k,k < W0.heap.size→W1.heap[k]? = W0.heap[k]?:=fun k hk=>by
  rw[← hW1];exact(Below.heap_alloc _ _ k (by simp;omega)).trans (Below.heap_alloc _ _ k hk)
 have hb1:Below w.heap.size w W1:=by rw[← hW1];exact(hb0.alloc hb0.size _).alloc (by have:=hb0.size;simp;omega) _
 have hs1:W1.heap.size=W0.heap.size+2:=by rw[← hW1];simp
 have hM:ApAt w fn (.func (.func g) #[] lb) w.heap.size (W0.heap.size+1) W0.heap.size [] W1:=
  ⟨⟨_,(hold w.heap.size (by omega)).trans hv0,⟨rfl,.inl ⟨rfl,rfl⟩⟩,by simp⟩,
   by rw[← hW1];have:=World.alloc_heap_new (W0.alloc (.deferred (some []))) (.loop (apRec fn (.func (.func g) #[] lb) w.heap.size W0.heap.size .ready none));rwa [World.size_alloc]at this,
   by rw[← hW1];exact(Below.heap_alloc _ _ _ (by simp)).trans (World.alloc_heap_new W0 _),hb1⟩
 refine⟨W0.heap.size+1,[{ target:=.collected W0.heap.size,args:=#[] }],W1,{ target:=.fn (.func g) lb,args:=#[.func (.yield (W0.heap.size+1)) #[] #[]] },W1,g,
  #[.func (.yield (W0.heap.size+1)) #[] #[]]++lb,W1,?_,?_,?_,?_,fun _=>h1,?_⟩
 ·rw[← hW1];exact run_enterLoop_outer _ _ _ _ _
 ·simp [resolve,go_sem]
 ·intro f' hf';simp [Target.leads]at hf';subst hf';exact hFg
 ·simp [invoke,go_sem,eg]
 ·refine (hseq (W0.heap.size + 1) (ApAt w fn (.func (.func g) #[] lb) w.heap.size (W0.heap.size + 1) W0.heap.size) W1 hb1 (ap_abides _ _ _ _ _ _ _ hb1.size)
   (fun pre x W hJ hl=>ap_yield F (n - 1 - 1) w fn hfn _ w.heap.size (W0.heap.size+1) W0.heap.size (by omega) (by omega) (by omega) (Nat.le_refl _) (by omega) N hN pre x W hJ hl) hM).mono ?_
  rintro e W2 ⟨⟨v0,rfl⟩,ss,hS,h2⟩;obtain⟨v,hv,hrow,hnil⟩:=h2.box;have hend:=run_endLoop (P:=Tryz.prog) h2.L (by simp [apRec]);obtain⟨W3,hW3⟩:∃W3,W2.putObj (W0.heap.size+1) (.loop { apRec fn (.func (.func g) #[] lb) w.heap.size W0.heap.size .ready none with state:=.exhausted })=W3:=⟨_,rfl⟩;rw[hW3]at hend;have hg3:W2.grownBy W3 (some (W0.heap.size+1)):=by rw[← hW3];exact grownBy_putObj_a _ _ _
  have hv3:W3.heap[w.heap.size]? = some (.cells #[v] 55 (0,0)):=by rw[← hW3];exact(World.putObj_heap_other (by omega)).trans hv
  have hK3:W3.heap[W0.heap.size]? = some (.deferred (some [])):=by rw[← hW3];exact(World.putObj_heap_other (by omega)).trans h2.K
  have hrow3:=hrow.kept hg3 (ownsRow_ne_a hrow h2.L (fun cur e=>by cases e));have hb3:Below w.heap.size w W3:=h2.below.grown hg3 h2.below.size (fun k e=>by cases e;omega);obtain⟨hc3,hf3⟩:=cell_of_box_a hv3;clear hW3;refine⟨none,W3,hend,?_⟩
  gi_wp2
  rw[← hs0];refine⟨by simp,.inl ⟨_,_,rfl,run_takeDeferred hK3,?_⟩⟩;exact⟨_,results_tmp rfl _ _ _,v,ss,rfl,hS,hrow3.kept (grownBy_putObj_a _ _ _) (ownsRow_ne_a hrow3 hK3 (fun cur e=>by cases e)),hnil,hb3.grown (grownBy_putObj_a _ _ _) hb3.size (fun k e=>by cases e;omega)⟩
theorem col_in (F : Fence) (n : Nat) (h8 : F.fn 109) (h11 : F.fn 122) (hro : F.round = none) (hn : 3 ≤ n) (g : Nat) (lb : Array Value) (hFg : F.fn g) (eg : ∀ args w, (callFunc g args).run Tryz.prog w = .ok (.enter g args) w)
  (S:List PtS→Prop) (N:Nat) (hN:N≤1000000) (w:World) (hseq:SeqGives F (n - 1 - 1) Tryz.prog g lb encPV S N w) :
  CallsIn F n Tryz.prog 109 #[.func (.func g) #[] lb] w fun e w'=>∃(v:Value) (ss:List PtS),e=.returned v∧S ss∧w'.ownsRow w.heap.size 69 33 v ss.length (ss.flatMap encPt)∧(v=.slice none 0 0↔ss=[])∧Below w.heap.size w w':=by
 have h1:1≤n:=by omega
 have e11:∀args w,(callFunc 122 args).run Tryz.prog w=.ok (.enter 122 args) w:=enters_of Tryz.func122 (by kernel_rfl) rfl;refine callsIn_of_wp Tryz.func109 rfl h8 ?_ hro;simp only [Tryz.ntmps109,List.size_toArray,List.length_cons,List.length_nil,Nat.reduceAdd,Nat.reduceSub,Array.replicate_succ,Array.replicate_zero,List.push_toArray,List.append_toArray,List.nil_append,List.cons_append]
 gi_wp2_with (gi_at_call 122;refine(ap_in F (n - 1) h11 hro (by omega) g lb hFg eg S N hN _ hseq).mono ?_;rintro e w' ⟨v,ss,rfl,hS,hrow,hnil,hb⟩)
 go_ret
 exact⟨v,ss,rfl,hS,hrow,hnil,hb⟩
open Go.RowKit Go.Sort Go.Shelf
def lays_pt_ren:Go.Shelf.Ren:=⟨fun|6=>110|15=>124|14=>123|28=>139|29=>140|20=>131|21=>132|22=>133|23=>134|24=>135|25=>136|26=>137|27=>138|46=>143|47=>144|48=>145|49=>146|50=>147|57=>148|n=>n,fun|22=>55|24=>69|25=>129|3=>3|39=>151|0=>0|53=>175|55=>25|4=>4|46=>201|45=>200|50=>159|5=>5|9=>9|66=>209|70=>212|76=>214|77=>215|n=>n,fun|n=>n⟩
theorem lays_pt:Go.Proofs.SlLaysF0.n6 Tryz.prog lays_pt_ren:={
 mixed:=by kernel_rfl,
 f6:=⟨Tryz.f110.name,by decide,Tryz.func110.trans (congrArg some (by kernel_rfl))⟩,
 f14:=⟨Tryz.f123.name,by decide,Tryz.func123.trans (congrArg some (by kernel_rfl))⟩,
 f15:=Tryz.func124.trans (congrArg some (by kernel_rfl)),
 f20:=⟨Tryz.f131.name,by decide,Tryz.func131.trans (congrArg some (by kernel_rfl))⟩,
 f21:=⟨Tryz.f132.name,by decide,Tryz.func132.trans (congrArg some (by kernel_rfl))⟩,
 f22:=⟨Tryz.f133.name,by decide,Tryz.func133.trans (congrArg some (by kernel_rfl))⟩,
 f23:=⟨Tryz.f134.name,by decide,Tryz.func134.trans (congrArg some (by kernel_rfl))⟩,
 f24:=⟨Tryz.f135.name,by decide,Tryz.func135.trans (congrArg some (by kernel_rfl))⟩,
 f25:=⟨Tryz.f136.name,by decide,Tryz.func136.trans (congrArg some (by kernel_rfl))⟩,
 f26:=⟨Tryz.f137.name,by decide,Tryz.func137.trans (congrArg some (by kernel_rfl))⟩,
 f27:=⟨Tryz.f138.name,by decide,Tryz.func138.trans (congrArg some (by kernel_rfl))⟩,
 f28:=Tryz.func139.trans (congrArg some (by kernel_rfl)),
 f29:=Tryz.func140.trans (congrArg some (by kernel_rfl)),
 f46:=⟨Tryz.f143.name,by decide,Tryz.func143.trans (congrArg some (by kernel_rfl))⟩,
 f47:=Tryz.func144.trans (congrArg some (by kernel_rfl)),
 f48:=Tryz.func145.trans (congrArg some (by kernel_rfl)),
 f49:=⟨Tryz.f146.name,by decide,Tryz.func146.trans (congrArg some (by kernel_rfl))⟩,
 f50:=⟨Tryz.f147.name,by decide,Tryz.func147.trans (congrArg some (by kernel_rfl))⟩,
 f57:=⟨Tryz.f148.name,by decide,Tryz.func148.trans (congrArg some (by kernel_rfl))⟩,
 t0:=Tryz.underlying0,
 a0:=Tryz.isAgg0,
 z0:=Tryz.sizeOf0,
 v0:=Tryz.zeroValue0,
 t3:=Tryz.underlying3,
 a3:=Tryz.isAgg3,
 z3:=Tryz.sizeOf3,
 v3:=Tryz.zeroValue3,
 t4:=Tryz.underlying4,
 a4:=Tryz.isAgg4,
 z4:=Tryz.sizeOf4,
 v4:=Tryz.zeroValue4,
 t5:=Tryz.underlying5,
 a5:=Tryz.isAgg5,
 z5:=Tryz.sizeOf5,
 v5:=Tryz.zeroValue5,
 t9:=Tryz.underlying9,
 a9:=Tryz.isAgg9,
 z9:=Tryz.sizeOf9,
 v9:=Tryz.zeroValue9,
 t22:=Tryz.underlying55,
 a22:=Tryz.isAgg55,
 z22:=Tryz.sizeOf55,
 v22:=Tryz.zeroValue55,
 t25:=Tryz.underlying129,
 a25:=Tryz.isAgg129,
 z25:=Tryz.sizeOf129,
 v25:=Tryz.zeroValue129,
 t39:=Tryz.underlying151,
 a39:=Tryz.isAgg151,
 z39:=Tryz.sizeOf151,
 v39:=Tryz.zeroValue151,
 t45:=Tryz.underlying200,
 a45:=Tryz.isAgg200,
 z45:=Tryz.sizeOf200,
 v45:=Tryz.zeroValue200,
 t46:=Tryz.underlying201,
 a46:=Tryz.isAgg201,
 z46:=Tryz.sizeOf201,
 v46:=Tryz.zeroValue201,
 t50:=Tryz.underlying159,
 a50:=Tryz.isAgg159,
 z50:=Tryz.sizeOf159,
 v50:=Tryz.zeroValue159,
 t53:=Tryz.underlying175,
 a53:=Tryz.isAgg175,
 z53:=Tryz.sizeOf175,
 v53:=Tryz.zeroValue175,
 t55:=Tryz.underlying25,
 a55:=Tryz.isAgg25,
 z55:=Tryz.sizeOf25,
 v55:=Tryz.zeroValue25,
 t66:=Tryz.underlying209,
 a66:=Tryz.isAgg209,
 z66:=Tryz.sizeOf209,
 v66:=Tryz.zeroValue209,
 t70:=Tryz.underlying212,
 a70:=Tryz.isAgg212,
 z70:=Tryz.sizeOf212,
 v70:=Tryz.zeroValue212,
 t76:=Tryz.underlying214,
 a76:=Tryz.isAgg214,
 z76:=Tryz.sizeOf214,
 v76:=Tryz.zeroValue214,
 t77:=Tryz.underlying215,
 a77:=Tryz.isAgg215,
 z77:=Tryz.sizeOf215,
 v77:=Tryz.zeroValue215 }
theorem sort_pt {base g cap : Nat} {ss : List PtS} (w : World) (hn : ss.length < 4611686018427387904) (ho : w.ownsRow base 69 33 (.slice (some ⟨g, 0, none⟩) ss.length cap) ss.length (ss.flatMap encPt)) :
  Calls Tryz.prog 110 #[.slice (some ⟨g,0,none⟩) ss.length cap,.func (.func 93) #[] #[]] w fun e w'=>e=.returned (.tuple #[])∧w'.ownsRow base 69 33 (.slice (some ⟨g,0,none⟩) ss.length cap) ss.length ((sortP ss).flatMap encPt)∧w.grownBy w' (some g):=by
 rcases ho.2 with ⟨h1,h2⟩|⟨gb,cap',cur,h1,hbase,hgb,r1,r2,r3,r4⟩
 ·cases h1
 ·injection h1 with h1 h2 h3
  injection h1 with h1
  injection h1 with h1
  subst h1 h3;have hH:HoldsK encPt 33 w g 0 ss.toArray:=holdsK_of_own encPt 33 (by omega) encPt_len hgb r4;have hsz:ss.toArray.size < 4611686018427387904:=by rw[List.size_toArray];exact hn
  have h:=AnyQ.slices_SortFunc_total lays_pt 33 Tryz.isAgg69 Tryz.sizeOf69 encPt encPt_len encPt_one cfPt swo_pt 93 #[] g 0 cap ss.toArray w (enters_of Tryz.func93 (by kernel_rfl) rfl) (lays_pt_cmp g 0 ss.toArray.size w) hH (Array.getElem?_eq_some_iff.1 hgb).1 hsz tot_pt;rw[List.size_toArray]at h;refine Calls.mono h ?_;rintro e w' ⟨rfl,n,os,rfl⟩;refine⟨rfl,?_,grownBy_sortedK _ _ _⟩;exact ownsRow_sortedK encPt 33 (by omega) encPt_len (sortP_len ss) hbase hgb r1 r2 r3
theorem sort_pt_none(p:Option Addr)(cap:Nat)(fv:Value)(w:World):Calls Tryz.prog 110 #[.slice p 0 cap,fv] w fun e w'=>e=.returned (.tuple #[])∧w'=w:=
 AnyF.slices_SortFunc_none lays_pt p cap fv w
theorem grownBy_drop{a b:World}{q:Nat}(h:a.grownBy b (some q))(hq:a.heap.size≤q):a.grownBy b none:=⟨h.os,h.tape,h.output,h.size,fun k hk _=>h.block k hk (fun e=>by injection e with e;omega)⟩
noncomputable def decP (v:Value):PtS:=Classical.epsilon fun p=>encPV p=v
theorem decP_enc(p:PtS):decP (encPV p)=p:=encPV_inj (Classical.epsilon_spec (p:=fun q=>encPV q=encPV p) ⟨p,rfl⟩)
noncomputable def dkP (en:MapEntry):PtS:=decP en.key
theorem sfdP_any (g : Nat) (lb : Array Value) (eg : ∀ args w, (callFunc g args).run Tryz.prog w = .ok (.enter g args) w)
  (S:List PtS→Prop) (N:Nat) (hN:N≤1000000) (w:World) (hseq:SeqGives Fence.wide 1 Tryz.prog g lb encPV S N w) :
  Calls Tryz.prog 91 #[.func (.func g) #[] lb,.func (.func 93) #[] #[]] w fun e w'=>∃(v:Value) (ss:List PtS),e=.returned v∧S ss∧w'.ownsRow w.heap.size 69 33 v ss.length ((sortP ss).flatMap encPt)∧(v=.slice none 0 0↔ss=[])∧Below w.heap.size w w':=by
 have h1:=callsIn_wide.1 (col_in Fence.wide 3 trivial trivial rfl (by omega) g lb trivial eg _ N hN w hseq.bounded);have HH:=kp h1;clear h1 hseq
 go_enter Tryz.func91,Tryz.ntmps91
 go_wp2_with fail;refine HH.o.mono ?_;rintro e w1 ⟨v,ss,rfl,⟨hS,hlen⟩,hrow,hnil,hb⟩;have HROW:=kp hrow;have HNIL:=kp hnil;have HB:=kp hb;have HS:=kp hS;rcases hrow.2 with ⟨rfl,hz⟩|⟨gb,cap,cur,rfl,hbase,hgb,r1,r2,r3,r4⟩
 ·have hss:ss=[]:=List.eq_nil_of_length_eq_zero hz;subst hss;clear hrow hnil hb hS hz hlen;go_wp2_with fail;refine(sort_pt_none none 0 _ w1).mono ?_;rintro e w2 ⟨rfl,rfl⟩;go_wp2_with fail;go_ret
  exact⟨.slice none 0 0,[],rfl,HS.o,by have:=HROW.o;simpa [sortP] using this,by simp,HB.o⟩
 ·have HBS:=kp hbase;have HSO:=kp (sort_pt w1 (by omega) HROW.o);clear hrow hnil hb hS hbase hgb r1 r2 r3 r4 hlen;obtain⟨k,hk⟩:=xe ss.length;rw[← hk]at HSO ⊢;have HKL:=kp hk;clear hk;go_wp2_with fail;refine HSO.o.mono ?_;rintro e w2 ⟨rfl,hr2,hg2⟩;have HR2:=kp hr2;have HG2:=kp hg2;clear hr2 hg2;go_wp2_with fail;go_ret
  refine⟨_,ss,rfl,HS.o,?_,?_,HB.o.grown HG2.o HB.o.size (fun j hj=>by cases hj;exact HBS.o)⟩
  ·have:=HR2.o;rw[HKL.o]at this ⊢;exact this
  ·have:=HNIL.o;rw[HKL.o];exact this
theorem kkL1_in (F : Fence) (n : Nat) (h10 : F.fn 111) (hro : F.round = none) (hn : 1 ≤ n) (l Bm b clock : Nat) (es : Array MapEntry) (hE : ∀ en ∈ es.toList, ∃ p : PtS, en.key = encPV p) (hk : MapOK Tryz.prog 69 es clock) (J : List PtS → World → Prop)
  (hY:∀pre x W,J pre W→pre.length < es.size→YieldAt F (n - 1) Tryz.prog l #[encPV x] W fun e W'=>e=.returned (.bool true)∧J (pre++[x]) W'∧KeepsWalks W W')
  (W:World) (hJ:AbidesFrom W.heap.size J) (hm:W.cell? ⟨Bm,0,none⟩=some (.map (some b))) (hb:W.heap[b]? = some (.map es clock)) (h0:J [] W) :
  CallsIn F n Tryz.prog 111 #[.func (.yield l) #[] #[],.pointer (some ⟨Bm,0,none⟩)] W fun e W'=>(∃v,e=.returned v)∧∃ss:List PtS,ss.Perm (es.toList.map dkP)∧J ss W':=by
 have HK:=kp hk;have HE:=kp hE;have HY:=kp hY;have HJ:=kp hJ;have HZL:=kq ((ptV (pt 0)).length=33) (ptV_length (pt_ok 0 (by decide)).1);clear hk hE hY hJ;obtain⟨sz,hsz⟩:=xe W.heap.size;have HSZ:=kp hsz;clear hsz;refine callsIn_of_wp Tryz.func111 rfl h10 ?_ hro;simp only [Tryz.ntmps111,List.size_toArray,List.length_cons,List.length_nil,Nat.reduceAdd,Nat.reduceSub,Array.replicate_succ,Array.replicate_zero,List.push_toArray,List.append_toArray,List.nil_append,List.cons_append]
 gi_wp2_with (first
  |(gi_at_range;refine wpi_range (o:=⟨some 5,_,_,_,_,_⟩) _ rfl rfl Tryz.underlying97 rfl hb HK.o ?_;intro w0 hrg0 hg0 hs0)
  | gi_in)
 rw[← HSZ.o]at hrg0 ⊢;have hJ0:J [] w0:=HJ.o [] W w0 none h0 hg0 (fun r e=>by cases e);clear h0 hg0 hs0;have HR0:=kp hrg0;have HJ0:=kp hJ0;clear hrg0 hJ0 hb hm
 go_frame
 gi_loopw [3] (fun _ wr=>∃vs,Hid (ItAt wr b sz es clock vs∧J (vs.map dkP) wr)) (fun _ wr=>itLeft wr b sz)
 case atStart=>exact⟨[],kp ⟨HR0.o,HJ0.o⟩⟩
 case round =>
  obtain⟨vs,HREL⟩:=hrel
  gi_wp2_with (first
   |(gi_at_next;refine wpi_next (o:=⟨some 6,_,_,_,_,_⟩) _ rfl rfl rfl HREL.o.1 HK.o ?_ ?_)
   | gi_in)
  ·intro hperm;have HP:=kp hperm;clear hperm
   gi_wp2
   go_end0
   exact⟨⟨_,rfl⟩,_,HP.o.map _,HREL.o.2⟩
  ·intro en w2 hen hit2 hlt hg2 hs2 hent;obtain⟨x,hx⟩:=HE.o en (Array.mem_toList_iff.2 hen);have hdk:dkP en=x:=by unfold dkP;rw[hx,decP_enc]
   have hJ2:J (vs.map dkP) w2:=HJ.o _ wr w2 (some sz) HREL.o.2 hg2 (fun r e=>by cases e;exact⟨Nat.le_of_eq HSZ.o.symm,HREL.o.1.walk⟩);have HI2:=kp hit2;have HJ2:=kp hJ2;have HD:=kp hdk;have HLT:=kp hlt;have hlen:=HI2.o.left_eq;have hlen0:=HREL.o.1.left_eq;have HM:=kq (itLeft w2 b sz < itLeft wr b sz) (by rw[hlen,hlen0];simp only [List.length_append,List.length_singleton];omega);rw[hx]at hent;unfold encPV at hent hx;have HX:=kp hx;have HLX:=kp (encPt_len x);have HOX:=kp (encPt_one x);obtain⟨xs,hxs⟩:=xe (encPt x);have HXE:=kp hxs;rw[← hxs]at hent HLX HOX HX;rw[HX.o];clear hen hit2 hg2 hs2 hx hdk hJ2 hlen hlen0 hlt hxs
   gi_wp2_with (first|(with_reducible refine wpi_alloc (o:=⟨some 3,_,_,_,_,_⟩) rfl rfl zero_pt ?_)|gi_in)
   intro V1 hb1 hV1;have HB1:=kp hb1;have HG1:=kq (w2.grownBy V1 none) (by rw[hV1];exact World.grownBy_alloc _ _ none);have HK1:=kq (KeepsWalks w2 V1) (by rw[hV1];exact KeepsWalks.alloc _ _);clear hb1 hV1 hent;obtain⟨gv,hgv⟩:=xe w2.heap.size;rw[← hgv]at HB1 ⊢;have HGV:=kp hgv;clear hgv
   gi_wp2_with (first|(with_reducible refine wpi_storeb (o:=⟨none,.store _ _ _,_,_,_,_⟩) rfl rfl row_point HB1.o rfl rfl HZL.o HLX.o HOX.o ?_)|gi_in)
   intro V2 hb2 hg2 hsz2;have HB2:=kp hb2;have HG2:=kq (w2.grownBy V2 none) (grownBy_drop (grownBy_trans0 (grownBy_up HG1.o) hg2) (Nat.le_of_eq HGV.o.symm));have HK2:=kq (KeepsWalks w2 V2) (HK1.o.trans (KeepsWalks.of_grownBy hg2 (fun j o hj ho=>by cases hj;rw[HB1.o]at ho;cases ho;rfl)));clear hb2 hg2 hsz2 HB1 HG1 HK1;have HJ3:=kq (J (vs.map dkP) V2) (HJ.o _ w2 V2 none HJ2.o HG2.o (fun r e=>by cases e));have HI3:=kp (HI2.o.of_walks HK2.o);have hpl:(vs.map dkP).length < es.size:=by rw[List.length_map];exact HLT.o
   obtain⟨fn,tmps,assign,body,hy,hR⟩:=HY.o (vs.map dkP) x V2 HJ3.o hpl;unfold encPV at hy;rw[← HXE.o]at hy;clear hpl
   gi_wp2_with (first|(with_reducible refine wpi_loadb (o:=⟨some 11,_,_,_,_,_⟩) rfl rfl row_point HB2.o rfl HLX.o ?_)|gi_in)
   refine hR.mono ?_;rintro e W3 ⟨rfl,hJ4,hk4⟩;have HI4:=kp (HI3.o.of_walks hk4);have HR4:=kq (ItAt W3 b sz es clock (vs++[en])∧J ((vs++[en]).map dkP) W3) ⟨HI4.o,by rw[List.map_append,List.map_cons,List.map_nil,HD.o];exact hJ4⟩;clear hJ4 hk4 hR hy
   gi_wp2
   have HM4:=kq (itLeft W3 b sz=itLeft w2 b sz) (by rw[HI4.o.left_eq,HI2.o.left_eq]);go_roundw
   case rel=>exact⟨_,HR4⟩
   case measure=>rw[HM4.o];exact HM.o
theorem kkL_any (m : Option Nat) (w : World) :
  Calls Tryz.prog 92 #[.map m] w fun e w'=>e=.returned (.func (.func 111) #[] #[.pointer (some ⟨w.heap.size,0,none⟩)])∧w'.cell? ⟨w.heap.size,0,none⟩=some (.map m)∧Below w.heap.size w w'∧w.heap.size < w'.heap.size:=by
 go_enter Tryz.func92,Tryz.ntmps92
 go_wp2
 go_ret
 refine⟨rfl,?_,(Below.refl _ w).alloc (Nat.le_refl _) _,by simp⟩;unfold World.cell?;rw[heap_alloc_new]
 rfl
theorem kkL_gives (n : Nat) (hn : 1 ≤ n) (Bm b clock : Nat) (es : Array MapEntry) (hE : ∀ en ∈ es.toList, ∃ p : PtS, en.key = encPV p) (hk : MapOK Tryz.prog 69 es clock) (w : World) (hBm : Bm < w.heap.size)
  (hm:w.cell? ⟨Bm,0,none⟩=some (.map (some b))) (hb:w.heap[b]? = some (.map es clock)) :
  SeqGives Fence.wide n Tryz.prog 111 #[.pointer (some ⟨Bm,0,none⟩)] encPV (fun ss=>ss.Perm (es.toList.map dkP)) es.size w:=fun l J W hW hJ hY h0 =>
 kkL1_in Fence.wide n trivial rfl hn l Bm b clock es hE hk J hY W hJ ((hW.cell (p:=⟨Bm,0,none⟩) hBm).trans hm) ((hW.block b (Array.getElem?_eq_some_iff.1 hb).1).trans hb) h0
open Go.RowKit
abbrev LockV:=CoinV×List UInt8
def lockV(x:LockV):List Value:=coinV x.1++x.2.map B
def LockOK(x:LockV):Prop:=CoinOK x.1∧x.2.length=32
def lockA(x:LockV):Value:=.agg (lockV x).toArray
def noLock:LockV:=(noCoin,List.replicate 32 0)
theorem zero_lock:(Tryz.prog.info? 118).map (·.zero)=some (some (.agg (lockV noLock).toArray)):=by kernel_rfl
theorem row_lock:RowT Tryz.prog 118 65:=⟨_,Tryz.underlying118,by kernel_rfl,by kernel_rfl⟩
theorem row_idk:RowT Tryz.prog 46 32:=⟨_,Tryz.underlying46,by kernel_rfl,by kernel_rfl⟩
def zidV:List Value:=(List.replicate 32 (0:UInt8)).map B
theorem zero_idk:(Tryz.prog.info? 46).map (·.zero)=some (some (.agg zidV.toArray)):=by kernel_rfl
theorem zidV_len:zidV.length=32:=by simp [zidV]
theorem lockV_length{x:LockV}(h:LockOK x):(lockV x).length=65:=by unfold lockV;rw[List.length_append,coinV_length h.1,List.length_map,h.2]
theorem lockV_one(x:LockV):∀u∈lockV x,u.oneCell'=true:=by
 intro u hu;rcases List.mem_append.1 hu with h|h
 ·exact coinV_one x.1 u h
 ·obtain⟨y,_,rfl⟩:=List.mem_map.1 h;rfl
theorem noLock_ok:LockOK noLock:=⟨noCoin_ok,by simp [noLock]⟩
theorem lock_coin{x:LockV}{j:Nat}{u:Value}(hu:(coinV x.1)[j]? = some u):(lockV x)[0+j]? = some u:=by
 unfold lockV;rw[Nat.zero_add,List.getElem?_append_left (List.getElem?_eq_some_iff.1 hu).1];exact hu
theorem lock_id{x:LockV}(h:LockOK x){j:Nat}{u:Value}(hu:(x.2.map B)[j]? = some u):(lockV x)[33+j]? = some u:=by
 unfold lockV;rw[List.getElem?_append_right (by rw[coinV_length h.1];omega),coinV_length h.1,show 33+j - 33=j by omega];exact hu
theorem mapB_one(l:List UInt8):∀u∈l.map B,u.oneCell'=true:=fun u hu=>by obtain⟨y,_,rfl⟩:=List.mem_map.1 hu;rfl
abbrev LocksL:=List (PtK×LockV)
def encL(L:LocksL):List (Value×Value):=L.map fun e=>(ptA e.1,lockA e.2)
def LKOK(L:LocksL):Prop:=(∀e∈L,PtOK e.1∧LockOK e.2)∧(L.map (·.1)).Nodup
def lookL(L:LocksL)(p:PtK):Option LockV:=(L.find? (fun e=>e.1 == p)).map (·.2)
structure LocksAt (w:World) (g b:Nat) (L:LocksL) (s:Int):Prop where
 blk:Blk w g 99 [.map (some b),.int .u64 s]
 map:∃es clock,w.heap[b]? = some (.map es clock)∧MapOK Tryz.prog 69 es clock∧kvs es=encL L
 ok:LKOK L
 ne:g≠b
theorem LocksAt.below{w w':World}{g b B:Nat}{L:LocksL}{s:Int}(h:LocksAt w g b L s)(hb:Below B w w')(h1:g < B)(h2:b < B):LocksAt w' g b L s:=by
 obtain⟨hb1,⟨es,clock,h3,h4,h5⟩,h6,h7⟩:=h;exact⟨hb1.below hb h1,⟨es,clock,(hb.block b h2).trans h3,h4,h5⟩,h6,h7⟩
theorem LocksAt.ltg{w:World}{g b:Nat}{L:LocksL}{s:Int}(h:LocksAt w g b L s):g < w.heap.size:=h.blk.lt
theorem LocksAt.ltb{w:World}{g b:Nat}{L:LocksL}{s:Int}(h:LocksAt w g b L s):b < w.heap.size:=by
 obtain⟨es,clock,h3,_⟩:=h.map;exact(Array.getElem?_eq_some_iff.1 h3).1
theorem LocksAt.call{w w':World}{g b:Nat}{L:LocksL}{s:Int}(h:LocksAt w g b L s)(hb:Below w.heap.size w w'):LocksAt w' g b L s:=h.below hb h.ltg h.ltb
theorem zeroV_lock(w:World):(zeroValue 118).run Tryz.prog w=.ok (lockA noLock) w:=by
 obtain⟨i,hi,hz⟩:=Option.map_eq_some_iff.1 zero_lock;simp [zeroValue,typeInfo,hi,hz,lockA]
theorem LocksAt.look {w : World} {g b : Nat} {L : LocksL} {s : Int} (h : LocksAt w g b L s) {p : PtK} (hp : PtOK p) :
  ∃c:LockV,LockOK c∧c=(lookL L p).getD noLock∧(Instr.lookup 97 (.map (some b)) (ptA p) true).run Tryz.prog w=.ok (.tuple #[lockA c,.bool (lookL L p).isSome]) w:=by
 obtain⟨hb1,⟨es,clock,h3,h4,h5⟩,⟨h6,h6'⟩,h7⟩:=h;obtain⟨lx,hx⟩:=keyOf_pt p hp;unfold lookL;cases hf:L.find? (fun e=>e.1 == p) with
 | none =>
  refine⟨noLock,noLock_ok,rfl,?_⟩;refine run_lookup_no kl_point Tryz.underlying97 h3 h4 hx ?_ zeroV_lock;intro q hq e;rw[h5]at hq;obtain⟨en,hen,rfl⟩:=List.mem_map.1 hq;have:=List.find?_eq_none.1 hf en hen;exact this (by simpa using ptA_inj (h6 en hen).1.1 hp.1 e)
 | some en =>
  have hmem:=List.mem_of_find?_eq_some hf;have hkey:en.1=p:=by simpa using List.find?_some hf
  refine⟨en.2,(h6 en hmem).2,rfl,?_⟩;obtain⟨j,hj,hje⟩:=List.getElem_of_mem hmem;have e1:(kvs es)[j]? = some (ptA en.1,lockA en.2):=by rw[h5];unfold encL;rw[List.getElem?_map,List.getElem?_eq_getElem hj,hje];rfl
  unfold kvs at e1;rw[List.getElem?_map]at e1;obtain⟨me,hme,hmm⟩:=Option.map_eq_some_iff.1 e1;simp only [Prod.mk.injEq]at hmm;have:=run_lookup_yes kl_point Tryz.underlying97 h3 h4 hx (j:=j) (en:=me) (by simpa using hme) (by rw[hmm.1,hkey]);rw[hmm.2]at this;exact this
def stoC(w0:World)(g1 g2:Nat)(t1 t2:TypeId)(o1 o2 c1 c2:List Value)(k:Nat)(w:World):Prop:=
 Touched [g1,g2] w0 w∧w.heap.size=w0.heap.size∧Blk w g1 t1 (if k=0 then o1 else c1)∧Blk w g2 t2 (if k≤1 then o2 else c2)
section
variable {w0 w:World} {g1 g2:Nat} {t1 t2:TypeId} {o1 o2 c1 c2:List Value}
theorem stoC.start(h1:Blk w0 g1 t1 o1)(h2:Blk w0 g2 t2 o2):stoC w0 g1 g2 t1 t2 o1 o2 c1 c2 0 w0.drew:=
 ⟨Touched.of_below (Drawn.all (Drawn.one w0)),rfl,h1.call (Drawn.all (Drawn.one w0)),h2.call (Drawn.all (Drawn.one w0))⟩
theorem stoC.put1{n:Nat}(hn:o1.length=n)(hg:g1≠g2)(h:stoC w0 g1 g2 t1 t2 o1 o2 c1 c2 0 w):∃old,Blk w g1 t1 old∧old.length=n∧∀w',Blk w' g1 t1 c1→w.grownBy w' (some g1)→w'.heap.size=w.heap.size→stoC w0 g1 g2 t1 t2 o1 o2 c1 c2 1 w':=by
 obtain⟨h1,h2,h3,h4⟩:=h;exact⟨o1,h3,hn,fun w' hb hgr hs=>⟨h1.grown hgr (.inl (by simp)),hs.trans h2,hb,h4.grown hgr (fun e=>by injection e with e;exact hg e.symm)⟩⟩
theorem stoC.put2{n:Nat}(hn:o2.length=n)(hg:g1≠g2)(h:stoC w0 g1 g2 t1 t2 o1 o2 c1 c2 1 w):∃old,Blk w g2 t2 old∧old.length=n∧∀w',Blk w' g2 t2 c2→w.grownBy w' (some g2)→w'.heap.size=w.heap.size→stoC w0 g1 g2 t1 t2 o1 o2 c1 c2 2 w':=by
 obtain⟨h1,h2,h3,h4⟩:=h;exact⟨o2,h4,hn,fun w' hb hgr hs=>⟨h1.grown hgr (.inl (by simp)),hs.trans h2,h3.grown hgr (fun e=>by injection e with e;exact hg e),hb⟩⟩
end
section
variable {P:Program} {C:Nat→World→Prop} {M:List Nat} {R:List (Nat×Nat)} {ops:Array Oper} {Q:Act→Prop} {rest:List Oper} {i:Nat} {a:Act} {o:Oper}
end
theorem ret_cct {P : Program} {fn : Func} {a : Act} {w : World} {p p2 q : Tmp} {ty ty2 : TypeId} (h : fn.results = #[.cell p ty, .cell p2 ty2, .tmp q]) {n n2 : Nat} (hT : RowT P ty n) (hT2 : RowT P ty2 n2) {g g2 : Nat} {t t2 : TypeId} {cs cs2 : List Value} (hb : Blk w g t cs) (hb2 : Blk w g2 t2 cs2) (hp : a.tmps.getD p undef = .pointer (some ⟨g, 0, none⟩)) (hp2 : a.tmps.getD p2 undef = .pointer (some ⟨g2, 0, none⟩)) (hn : cs.length = n) (hn2 : cs2.length = n2)
  {v:Value} (hq:a.tmps.getD q undef=v) (hd:a.defers=[])
  {R:Ending→World→Prop} (hR:R (.returned (.tuple #[.agg cs.toArray,.agg cs2.toArray,v])) w):bodyPost P fn R .ret a w:=by
 obtain⟨d,hu,hdd,hi⟩:=hT;obtain⟨d2,hu2,hdd2,hi2⟩:=hT2;refine bodyPost_ret (v:=.tuple #[.agg cs.toArray,.agg cs2.toArray,v]) ?_ hd hR;have hp':a.tmps[p]?.getD undef=.pointer (some ⟨g,0,none⟩):=by simpa using hp
 have hp2':a.tmps[p2]?.getD undef=.pointer (some ⟨g2,0,none⟩):=by simpa using hp2
 have hq':a.tmps[q]?.getD undef=v:=by simpa using hq
 have hload:=run_loadVar_row (P:=P) w g t ty cs.toArray (0,0) d hb hu (by revert hdd;cases d <;> simp) (by rw[hi];simp [hn]);have hload2:=run_loadVar_row (P:=P) w g2 t2 ty2 cs2.toArray (0,0) d2 hb2 hu2 (by revert hdd2;cases d2 <;> simp) (by rw[hi2];simp [hn2]);simp [results,h,hp',hp2',hq',asAddr,hload,hload2]
theorem kget_any (g b : Nat) (L : LocksL) (s : Int) (p : PtK) (w : World) (h : LocksAt w g b L s) (hp : PtOK p) :
  Calls Tryz.prog 44 #[.pointer (some ⟨g,0,none⟩),ptA p] w fun e w'=>e=.returned (.tuple #[.agg (((lookL L p).getD noLock).2.map B).toArray,coinA ((lookL L p).getD noLock).1,.bool (lookL L p).isSome])∧Below w.heap.size w w':=by
 obtain⟨c,hc,hce,-⟩:=h.look hp;rw[← hce];obtain⟨ok,hok⟩:=xe ((lookL L p).isSome);rw[← hok]
 have hlk:∀w',LocksAt w' g b L s→(Instr.lookup 97 (.map (some b)) (ptA p) true).run Tryz.prog w'=.ok (.tuple #[lockA c,.bool ok]) w':=by
  intro w' h';obtain⟨c',_,e,h2⟩:=h'.look hp;rw[hce,← e,hok];exact h2
 have HLK:=kp hlk;have HC:=kp h;have HX:=kp (ptV_length hp.1);have HCL:=kp (lockV_length hc);have HC1:=kp (lockV_one c);have HKL:=kp (coinV_length hc.1);have HK1:=kp (coinV_one c.1);have HIL:=kq ((c.2.map B).length=32) (by rw[List.length_map,hc.2]);have HI1:=kp (mapB_one c.2);have HPC:=kp (fun j u=>lock_coin (x:=c) (j:=j) (u:=u));have HPI:=kp (fun j u=>lock_id hc (j:=j) (u:=u));clear hok hce hc hp hlk;obtain⟨xs,hxs⟩:=xe (ptV p);obtain⟨cs,hcs⟩:=xe (lockV c);obtain⟨ks,hks⟩:=xe (coinV c.1);obtain⟨is,his⟩:=xe (c.2.map B);rw[coinA,← hks,← his];rw[lockA,← hcs]at HLK;rw[← hcs]at HCL HC1;rw[← hks]at HKL HK1;rw[← his]at HIL HI1;rw[← hcs,← hks]at HPC;rw[← hcs,← his]at HPI;rw[ptA,← hxs];rw[ptA,← hxs]at HLK;rw[← hxs]at HX;clear hxs hcs hks his;obtain⟨z,hz⟩:=xe w.heap.size;have hg:g < z:=by rw[hz];exact h.ltg
 have hb:b < z:=by rw[hz];exact h.ltb
 have HZ:=kp hz;rw[← hz];clear h hz
 go_enter Tryz.func44,Tryz.ntmps44
 go_wp2_with (with_reducible first|refine wpl_box (o:=⟨some 3,_,_,_,_,_⟩) rfl rfl rfl ?_);intro w1 hb1 hbw1 hsz1;rw[← HZ.o]at hb1 hbw1 hsz1 ⊢;go_wp2_with (with_reducible first|refine wpl_alloc (o:=⟨some 4,_,_,_,_,_⟩) rfl rfl zero_idk ?_);intro w2 hb2 hbw2 hsz2;have HB1:=kp (hb1.below hbw2 (by omega));have HBW:=kp (hbw1.trans (hbw2.mono (by omega)));go_wp2_with (with_reducible first|refine wpl_alloc (o:=⟨some 5,_,_,_,_,_⟩) rfl rfl zero_coin ?_);intro w3 hb3 hbw3 hsz3;have HB1':=kp (HB1.o.below hbw3 (by omega));have HB2:=kp (hb2.below hbw3 (by omega));have HB3:=kp hb3;have HBW3:=kp (HBW.o.trans (hbw3.mono (by omega)));have HC3:=kp (HC.o.below HBW3.o hg hb);have HSZ:=kp hsz3;clear hb1 hb2 hb3 hbw1 hbw2 hbw3 hsz1 hsz2 hsz3 HB1 HBW HC;generalize hz1:z+1=z1 at *;generalize hz2:z1+1=z2 at *;have HZ1:=kq (z1=z+1∧z2=z+2) (by omega);clear hz1 hz2;repeat' (first|(with_reducible refine wp_phase (id:=1) (newC w3 118 (lockV noLock) cs) [9,10] [(0,2),(0,2),(0,2),(0,2),(0,2),(0,2),(0,2),(0,2),(0,2),(0,0),(1,1),(0,2)] (by kernel_rfl) (by kernel_rfl) ?_ ?_)|go_values|go_skip|go_guarded|go_step|go_upon|go_back)
 ·exact newC.start
 have HF:=kq (∀k w',newC w3 118 (lockV noLock) cs k w'→w'.cell? ⟨g,0,none⟩=some (.map (some b))) (fun k w' h=>(HC3.o.call (newC.low k w' h)).blk.at_ rfl);have HL:=kq (∀k w',newC w3 118 (lockV noLock) cs k w'→(Instr.lookup 97 (.map (some b)) (.agg xs.toArray) true).run Tryz.prog w'=.ok (.tuple #[.agg cs.toArray,.bool ok]) w') (fun k w' h=>HLK.o w' (HC3.o.call (newC.low k w' h)));have HX1:=kq (∀k w',newC w3 118 (lockV noLock) cs k w'→Blk w' z 69 xs) (fun k w' h=>HB1'.o.call (newC.low k w' h));refine ph_value rfl (by first|rfl|go_simp) (fun k_ _ _ w_ hC_=>by first|(go_simp;rfl)|(go_simp;done)|rfl) (fun K hK=>?_);go_simp;refine hK _ ?_;clear hK K;refine ph_value rfl (by first|rfl|go_simp) (fun k_ _ _ w_ hC_=>by first|(go_simp;rfl)|(go_simp;done)|rfl) (fun K hK=>?_);go_simp;refine hK _ ?_;clear hK K;refine ph_value rfl (by first|rfl|go_simp) (fun k_ _ _ w_ hC_=>by first|(go_simp;rfl)|(go_simp;done)|rfl) (fun K hK=>?_);go_simp;refine hK _ ?_;clear hK K;refine ph_value rfl (by first|rfl|go_simp) (fun k_ _ _ w_ hC_=>by have c1:=HF.o _ _ hC_;first|(go_simp;rfl)|(go_simp;done)|rfl) (fun K hK=>?_);go_simp;refine hK _ ?_;clear hK K;refine ph_load rfl rfl rfl row_point (fun k _ _ w h=>HX1.o k w h) rfl HX.o ?_
 (intro K hK;go_simp;refine hK _ ?_;clear hK K)
 refine ph_value rfl (by first|rfl|go_simp) (fun k_ _ _ w_ hC_=>by have c1:=HL.o _ _ hC_;first|(go_simp;rfl)|(go_simp;done)|rfl) (fun K hK=>?_);go_simp;refine hK _ ?_;clear hK K;refine ph_value rfl (by first|rfl|go_simp) (fun k_ _ _ w_ hC_=>by first|(go_simp;rfl)|(go_simp;done)|rfl) (fun K hK=>?_);go_simp;refine hK _ ?_;clear hK K;refine ph_value rfl (by first|rfl|go_simp) (fun k_ _ _ w_ hC_=>by first|(go_simp;rfl)|(go_simp;done)|rfl) (fun K hK=>?_);go_simp;refine hK _ ?_;clear hK K;refine ph_value rfl (by first|rfl|go_simp) (fun k_ _ _ w_ hC_=>by first|(go_simp;rfl)|(go_simp;done)|rfl) (fun K hK=>?_);go_simp;refine hK _ ?_;clear hK K;refine ph_alloc 0 rfl rfl rfl rfl rfl zero_lock newC.lay ?_
 (intro K hK;go_simp;refine hK _ ?_;clear hK K)
 refine ph_store 1 rfl rfl rfl rfl rfl row_lock rfl rfl HCL.o HC1.o (newC.put (lockV_length noLock_ok)) ?_
 (intro K hK;go_simp;refine hK _ ?_;clear hK K)
 refine ph_value rfl (by first|rfl|go_simp) (fun k_ _ _ w_ hC_=>by first|(go_simp;rfl)|(go_simp;done)|rfl) (fun K hK=>?_);go_simp;refine hK _ ?_;clear hK K;refine ph_nil ?_;intro w4 ⟨hl4,hs4,hx4⟩;have H4X:=kp hx4;have H4I:=kp (HB2.o.call hl4);have H4C:=kp (HB3.o.call hl4);have HL4:=kp (HBW3.o.trans (hl4.mono (by rw[HSZ.o];have:=HZ1.o;omega)));have HS4:=kq (w4.heap.size=z+4) (by rw[hs4,HSZ.o];have:=HZ1.o;omega);have HG3:=kq (w3.heap.size=z+3) (by rw[HSZ.o];have:=HZ1.o;omega);clear hl4 hs4 hx4 HF HL HX1 HC3 HB1' HB2 HB3 HBW3 HLK HSZ;generalize hg3:w3.heap.size=z3 at *;have HZ3:=kq (z3=z+3) HG3.o;clear hg3 HG3;go_wp2_with fail;repeat' (first|(with_reducible refine wp_phase (id:=2) (stoC w4 z1 z2 46 77 zidV (coinV noCoin) is ks) [5,6] [(0,0),(0,0),(0,1),(0,1),(0,2),(0,0),(1,1),(2,2)] (by kernel_rfl) (by kernel_rfl) ?_ ?_)|go_values|go_skip|go_guarded|go_step|go_upon|go_back)
 ·exact stoC.start H4I.o H4C.o
 have HM:=kq (∀k w',stoC w4 z1 z2 46 77 zidV (coinV noCoin) is ks k w'→Blk w' z3 118 cs) (fun k w' h=>(h.1.block z3 H4X.o.lt (by have:=HZ1.o;have:=HZ3.o;simp;omega)).trans H4X.o);refine ph_value rfl (by first|rfl|go_simp) (fun k_ _ _ w_ hC_=>by first|(go_simp;rfl)|(go_simp;done)|rfl) (fun K hK=>?_);go_simp;refine hK _ ?_;clear hK K;refine ph_loadmk rfl rfl rfl row_idk (fun k _ _ w h j u hu=>(HM.o k w h).at_ (HPI.o j u hu)) rfl HIL.o ?_
 (intro K hK;go_simp;refine hK _ ?_;clear hK K)
 refine ph_value rfl (by first|rfl|go_simp) (fun k_ _ _ w_ hC_=>by first|(go_simp;rfl)|(go_simp;done)|rfl) (fun K hK=>?_);go_simp;refine hK _ ?_;clear hK K;refine ph_loadmk rfl rfl rfl row_coin (fun k _ _ w h j u hu=>(HM.o k w h).at_ (HPC.o j u hu)) rfl HKL.o ?_
 (intro K hK;go_simp;refine hK _ ?_;clear hK K)
 refine ph_value rfl (by first|rfl|go_simp) (fun k_ _ _ w_ hC_=>by first|(go_simp;rfl)|(go_simp;done)|rfl) (fun K hK=>?_);go_simp;refine hK _ ?_;clear hK K;refine ph_store 0 rfl rfl rfl rfl rfl row_idk rfl rfl HIL.o HI1.o (fun w h=>stoC.put1 zidV_len (by have:=HZ1.o;omega) h) ?_
 (intro K hK;go_simp;refine hK _ ?_;clear hK K)
 refine ph_store 1 rfl rfl rfl rfl rfl row_coin rfl rfl HKL.o HK1.o (fun w h=>stoC.put2 (coinV_length noCoin_ok) (by have:=HZ1.o;omega) h) ?_
 (intro K hK;go_simp;refine hK _ ?_;clear hK K)
 refine ph_value rfl (by first|rfl|go_simp) (fun k_ _ _ w_ hC_=>by first|(go_simp;rfl)|(go_simp;done)|rfl) (fun K hK=>?_);go_simp;refine hK _ ?_;clear hK K;refine ph_nil ?_;intro w5 hC5;have H5I:=kq (Blk w5 z1 46 is) hC5.2.2.1;have H5C:=kq (Blk w5 z2 77 ks) hC5.2.2.2;have HL5:=kp (HL4.o.trans (hC5.1.below (B:=z) (by have:=HZ1.o;simp;omega) (by have:=HS4.o;omega)));clear hC5 HM;go_wp2_with fail;refine ret_cct rfl row_idk row_coin H5I.o H5C.o rfl rfl HIL.o HKL.o rfl rfl ?_;exact⟨rfl,HL5.o⟩
theorem knew_any(w:World):Calls Tryz.prog 15 #[] w fun e w'=>∃g b,e=.returned (.pointer (some ⟨g,0,none⟩))∧LocksAt w' g b [] 0∧w.heap.size≤g∧w.heap.size≤b∧Below w.heap.size w w':=by
 have hmm:∀w,(Instr.makeMap 97 none).run Tryz.prog w=.ok (.map (some w.heap.size)) (w.alloc (.map #[] 0)):=fun w=>rfl
 go_enter Tryz.func15,Tryz.ntmps15
 go_wp2
 go_ret
 refine⟨w.heap.size+1,w.heap.size,rfl,⟨?_,⟨#[],0,?_,MapOK.empty _ _ _,rfl⟩,⟨by simp,by simp⟩,by omega⟩,by omega,by omega,((Below.refl _ _).alloc (Nat.le_refl _) _).alloc (by simp) _⟩
 ·have:=heap_alloc_new (w.alloc (.map #[] 0)) (.cells #[.map (some w.heap.size),.int .u64 0] 99);simpa [Blk] using this
 ·have h1:=heap_alloc_new w (.map #[] 0);have h2:=Below.heap_alloc (w.alloc (.map #[] 0)) (.cells #[.map (some w.heap.size),.int .u64 0] 99) w.heap.size (by simp);exact h2.trans h1
theorem klen_any (g b : Nat) (L : LocksL) (s : Int) (w : World) (h : LocksAt w g b L s) :
  Calls Tryz.prog 24 #[.pointer (some ⟨g,0,none⟩)] w fun e w'=>e=.returned (.int .i64 L.length)∧w=w':=by
 obtain⟨hb1,⟨es,clock,h3,h4,h5⟩,h6,h7⟩:=h;have c1:w.cell? ⟨g,0,none⟩=some (.map (some b)):=hb1.at_ rfl;have e:es.size=L.length:=by rw[← kvs_length,h5];simp [encL]
 have hl:=fun ty=>run_len_map w 97 ty b es clock Tryz.underlying97 h3
 simp only [e]at hl;clear hb1 h3 h4 h5 h6 h7 e
 go_enter Tryz.func24,Tryz.ntmps24
 go_wp2
 go_ret
 exact⟨rfl,rfl⟩
theorem ksum_any (g b : Nat) (L : LocksL) (s : Int) (w : World) (h : LocksAt w g b L s) :
  Calls Tryz.prog 23 #[.pointer (some ⟨g,0,none⟩)] w fun e w'=>e=.returned (.int .u64 s)∧w=w':=by
 have c1:w.cell? ⟨g,1,none⟩=some (.int .u64 s):=h.blk.at_ rfl;clear h
 go_enter Tryz.func23,Tryz.ntmps23
 go_wp2
 go_ret
 exact⟨rfl,rfl⟩
end Go.Proofs.YtnnjjbkdjkjnpaaGreatDoor

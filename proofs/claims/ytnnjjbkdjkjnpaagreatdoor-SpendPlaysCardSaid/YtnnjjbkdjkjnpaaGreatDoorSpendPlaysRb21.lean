/- The contracts of coins.Copy and locks.Copy. -/
import Derived.Test.YtnnjjbkdjkjnpaaGreatDoorSpendPlaysRb20
import Derived.Lib.AppendZerosOnto
set_option linter.unusedSimpArgs false
set_option linter.unusedVariables false
set_option maxRecDepth 100000
set_option maxHeartbeats 16000000
namespace Go.Proofs.YtnnjjbkdjkjnpaaGreatDoor
open Go.RowKit
section
variable {P:Program} {C:Nat→World→Prop} {M:List Nat} {R:List (Nat×Nat)} {ops:Array Oper} {Q:Act→Prop} {rest:List Oper} {i:Nat} {a:Act} {o:Oper}
theorem ph_callx {v : Value} {f : FuncId} {args : Array Value} (j : Nat) (hM : M.contains i = true) (hl : phLo R i = j) (hh : phHi R i = j) (hw : Region.wanted o (yielded ops a.tmps) = true)
  (h:∀w,(execOp a.eval o).run P w=.ok (.enter f args) w)
  (hc:∀w,C j w→Calls P f args w fun e w'=>e=.returned v∧C (j+1) w')
  (hk:∀K:Act→Prop,(∀a,wpPhase P C M R ops Q rest (i+1) a→K a)→K (a.put o.dst v)):wpPhase P C M R ops Q (o::rest) i a:=by
 refine ph_write j hM hl hh hw (fun w hC=>?_) hk;unfold phAt;rw[h w];exact hc w hC
end
def cpyC(w0:World)(es:Array MapEntry)(clock:Nat)(t:TypeId)(s:Int)(k:Nat)(w:World):Prop:=
 Below w0.heap.size w0 w∧w.heap.size=w0.heap.size+k∧(1≤k→w.heap[w0.heap.size]? = some (.map es clock))∧(2≤k→Blk w (w0.heap.size+1) t [.map (some w0.heap.size),.int .u64 s])
theorem cpyC.start{w0:World}{es:Array MapEntry}{clock:Nat}{t:TypeId}{s:Int}:cpyC w0 es clock t s 0 w0.drew:=
 ⟨Drawn.all (Drawn.one w0),rfl,fun h=>by omega,fun h=>by omega⟩
theorem cpyC.map{w0 w:World}{es:Array MapEntry}{clock:Nat}{t:TypeId}{s:Int}(h:cpyC w0 es clock t s 0 w):cpyC w0 es clock t s 1 (w.alloc (.map es clock)):=by
 obtain⟨h1,h2,_,_⟩:=h;refine⟨h1.alloc h1.size _,by simp [h2],fun _=>?_,fun h=>by omega⟩;have:=heap_alloc_new w (.map es clock)
 rwa [h2]at this
theorem cpyC.box{w0 w:World}{es:Array MapEntry}{clock:Nat}{t:TypeId}{s:Int}(h:cpyC w0 es clock t s 1 w):cpyC w0 es clock t s 2 (w.alloc (.cells #[.map (some w0.heap.size),.int .u64 s] t)):=by
 obtain⟨h1,h2,h3,_⟩:=h;refine⟨h1.alloc h1.size _,by simp [h2],fun _=>(Below.heap_alloc _ _ _ (by omega)).trans (h3 (Nat.le_refl _)),fun _=>?_⟩;have:=heap_alloc_new w (.cells #[.map (some w0.heap.size),.int .u64 s] t);rw[h2]at this;exact this
theorem ccopy_any (g b : Nat) (L : CoinsL) (s : Int) (w : World) (h : CoinsAt w g b L s) :
  Calls Tryz.prog 41 #[.pointer (some ⟨g,0,none⟩)] w fun e w'=>∃g2 b2,e=.returned (.pointer (some ⟨g2,0,none⟩))∧CoinsAt w' g2 b2 L s∧w.heap.size≤g2∧w.heap.size≤b2∧Below w.heap.size w w':=by
 obtain⟨es,clock,h3,h4,h5⟩:=h.map;have HH:=kp h;have H3:=kp h3;have H4:=kp h4;have H5:=kp h5;clear h3 h4 h5 h
 go_enter Tryz.func41,Tryz.ntmps41
 go_wp2_with fail;repeat' (first|(with_reducible refine wp_phase (id:=1) (cpyC w es clock 90 s) [4,10] [(0,0),(0,0),(0,0),(0,0),(0,0),(0,1),(0,1),(0,1),(0,1),(1,1),(1,1),(2,2)] (by kernel_rfl) (by kernel_rfl) ?_ ?_)|go_values|go_skip|go_guarded|go_step|go_upon|go_back)
 ·exact cpyC.start
 have HF:=kq (∀k w',cpyC w es clock 90 s k w'→w'.cell? ⟨g,0,none⟩=some (.map (some b))) (fun k w' h=>(HH.o.call h.1).blk.at_ rfl);have HG:=kq (∀k w',cpyC w es clock 90 s k w'→w'.cell? ⟨g,1,none⟩=some (.int .u64 s)) (fun k w' h=>(HH.o.call h.1).blk.at_ rfl);have HCL:=kq (∀w',cpyC w es clock 90 s 0 w'→Calls Tryz.prog 74 #[.map (some b)] w' fun e w''=>e=.returned (.map (some w.heap.size))∧cpyC w es clock 90 s 1 w'') (fun w' h=>(cclone_any b es clock w' ((h.1.block b HH.o.ltb).trans H3.o)).mono fun e w'' ⟨he,hw⟩=>⟨by rw[he,h.2.1];rfl,by rw[hw];exact h.map⟩);refine ph_value rfl (by first|rfl|go_simp) (fun k_ _ _ w_ hC_=>by first|(go_simp;rfl)|(go_simp;done)|rfl) (fun K hK=>?_);go_simp;refine hK _ ?_;clear hK K;refine ph_value rfl (by first|rfl|go_simp) (fun k_ _ _ w_ hC_=>by first|(go_simp;rfl)|(go_simp;done)|rfl) (fun K hK=>?_);go_simp;refine hK _ ?_;clear hK K;refine ph_value rfl (by first|rfl|go_simp) (fun k_ _ _ w_ hC_=>by first|(go_simp;rfl)|(go_simp;done)|rfl) (fun K hK=>?_);go_simp;refine hK _ ?_;clear hK K;refine ph_value rfl (by first|rfl|go_simp) (fun k_ _ _ w_ hC_=>by have c1:=HF.o _ _ hC_;first|(go_simp;rfl)|(go_simp;done)|rfl) (fun K hK=>?_);go_simp;refine hK _ ?_;clear hK K;refine ph_callx 0 rfl rfl rfl (by first|rfl|go_simp) (fun w=>by first|rfl|(go_simp;rfl)|go_simp) (fun w h=>HCL.o w h) ?_
 (intro K hK;go_simp;refine hK _ ?_;clear hK K)
 refine ph_value rfl (by first|rfl|go_simp) (fun k_ _ _ w_ hC_=>by first|(go_simp;rfl)|(go_simp;done)|rfl) (fun K hK=>?_);go_simp;refine hK _ ?_;clear hK K;refine ph_value rfl (by first|rfl|go_simp) (fun k_ _ _ w_ hC_=>by first|(go_simp;rfl)|(go_simp;done)|rfl) (fun K hK=>?_);go_simp;refine hK _ ?_;clear hK K;refine ph_value rfl (by first|rfl|go_simp) (fun k_ _ _ w_ hC_=>by first|(go_simp;rfl)|(go_simp;done)|rfl) (fun K hK=>?_);go_simp;refine hK _ ?_;clear hK K;refine ph_value rfl (by first|rfl|go_simp) (fun k_ _ _ w_ hC_=>by have c1:=HG.o _ _ hC_;first|(go_simp;rfl)|(go_simp;done)|rfl) (fun K hK=>?_);go_simp;refine hK _ ?_;clear hK K;refine ph_value rfl (by first|rfl|go_simp) (fun k_ _ _ w_ hC_=>by first|(go_simp;rfl)|(go_simp;done)|rfl) (fun K hK=>?_);go_simp;refine hK _ ?_;clear hK K;refine ph_run 1 rfl rfl rfl (by first|rfl|go_simp) (fun w' hC=>⟨_,by (have hz:=hC.2.1);first|(go_simp;exact⟨⟨rfl,rfl⟩,rfl⟩)|(go_simp;rfl)|go_simp,hC.box⟩) ?_
 (intro K hK;go_simp;refine hK _ ?_;clear hK K)
 refine ph_value rfl (by first|rfl|go_simp) (fun k_ _ _ w_ hC_=>by first|(go_simp;rfl)|(go_simp;done)|rfl) (fun K hK=>?_);go_simp;refine hK _ ?_;clear hK K;refine ph_nil ?_;intro w2 hC2;go_wp2_with fail;go_ret
 refine⟨w.heap.size+1,w.heap.size,rfl,⟨hC2.2.2.2 (Nat.le_refl _),⟨es,clock,hC2.2.2.1 (by decide),H4.o,H5.o⟩,HH.o.ok,by omega⟩,by omega,Nat.le_refl _,hC2.1⟩
end Go.Proofs.YtnnjjbkdjkjnpaaGreatDoor
namespace Go.Proofs.YtnnjjbkdjkjnpaaGreatDoor
open Go.RowKit
section
variable {P:Program} {w:World} {base g n c i:Nat} {A:Option Addr} {e dT sT ty:TypeId} {sz bytes:Nat} {xs:List Value}
theorem own_take(h:w.ownsRow base e sz (.slice A n c) n xs)(hi:i≤n):w.ownsRow base e sz (.slice A i c) i (xs.take (i*sz)):=by
 have hm:i*sz≤n*sz:=Nat.mul_le_mul_right _ hi;refine⟨by rw[List.length_take,h.1];omega,?_⟩;rcases h.2 with ⟨hv,h0⟩|⟨g,cap,cur,hv,hbg,hh,hcap,hm2,hs,ht⟩
 ·injection hv with h1 h2 h3
  subst h1 h3;obtain rfl:i=0:=by omega
  exact .inl ⟨rfl,rfl⟩
 ·injection hv with h1 h2 h3
  subst h1 h3;refine .inr ⟨g,_,cur,rfl,hbg,hh,by omega,hm2,hs,?_⟩;rw[← ht,List.take_take,Nat.min_eq_left hm]
theorem run_clear_own (HE : ElemT P dT e sz bytes) {zs : List Value} (hzz : (P.info? e).map (·.zero) = some (some (.agg zs.toArray))) (hz1 : ∀ v ∈ zs, v.oneCell' = true) (h : w.ownsRow base e sz (.slice (some ⟨g, 0, none⟩) n c) n xs) {m c2 : Nat} (hr : n + m ≤ c) :
  ∃w',(Builtin.clear_ #[dT] ty #[.slice (some ⟨g,n*sz,none⟩) m c2]).run P w=.ok (.tuple #[]) w'∧w'.ownsRow base e sz (.slice (some ⟨g,0,none⟩) n c) n xs∧w.grownBy w' (some g)∧w'.heap.size=w.heap.size:=by
 obtain⟨i,z,hi,hz,hsz,hby,hzs,h0⟩:=HE.hi
 have hza:z=.agg zs.toArray:=by
  rw[hi]at hzz;simp only [Option.map_some,Option.some.injEq,hz]at hzz;exact hzz
 rcases h.2 with ⟨hv,_⟩|⟨g',cap,cur,hv,hbg,hh,hcap,hm2,hs,ht⟩
 ·cases hv
 ·injection hv with hv1 hv2 hv3
  injection hv1 with hv1
  injection hv1 with hv1
  subst hv1 hv3;cases m with
  | zero=>exact⟨w,by simp [Builtin.clear_,run_underlying HE.ht],h,World.grownBy.refl w _,rfl⟩
  | succ m =>
   have hmul:(n+(m+1))*sz≤c*sz:=Nat.mul_le_mul_right _ hr;rw[Nat.add_mul]at hmul;obtain⟨ys,hys⟩:=xe ((Builtin.zeroCells zs.toArray (m+1)).toList);have hzl:zs.length=sz:=by rw[hza]at hzs;simpa [Value.cells] using hzs
   have hyl:ys.length=(m+1)*sz:=by rw[hys];simp [Builtin.zeroCells,hzl]
   have hy1:∀v∈ys,v.oneCell'=true:=by
    intro v hv;rw[hys]at hv;simp only [Builtin.zeroCells,Array.toList_map,Array.toList_range,List.mem_map,List.mem_range,List.size_toArray]at hv;obtain⟨q,hq,rfl⟩:=hv;have hlt:q % zs.length < zs.length:=Nat.mod_lt _ (by omega);have:zs.toArray[q % zs.length]! = zs[q % zs.length]:=by simp [hlt]
    rw[this];exact hz1 _ (List.getElem_mem hlt)
   have hst:=run_storeCells_at P g (n*sz) e ys 0 cur w hh (by simp;omega) hy1;simp only [Nat.add_zero]at hst;refine⟨w.setRow g (cur.toList.take (n*sz)++ys++cur.toList.drop (n*sz+ys.length)).toArray,?_,⟨h.1,.inr ⟨g,c,_,rfl,hbg,setRow_heap w g cur _ e _ hh,hcap,hm2,?_,?_⟩⟩,⟨rfl,rfl,rfl,by simp,fun k _ hk=>setRow_other w g k _ (fun e=>hk (by simp [e]))⟩,by simp⟩
   ·have hzv:∀w,(zeroValue e).run P w=.ok (.agg zs.toArray) w:=fun w=>by simp [zeroValue,typeInfo,hi,hz,hza]
    simp [Builtin.clear_,run_underlying HE.ht,hzv,Value.cells,← hys,hst]
   ·simp only [List.size_toArray,List.length_append,List.length_take,List.length_drop,Array.length_toList];omega
   ·rw[List.toList_toArray,List.append_assoc,List.take_append_of_le_length (by rw[List.length_take,Array.length_toList];omega),List.take_take,Nat.min_self];exact ht
end
section
variable {P:Program} {ops:Array Oper} {rest:List Oper} {o:Oper} {a:Act} {w:World} {Q:Exit→Act→World→Prop}
end
theorem wpl_clear_run {P : Program} {w : World} {ops : Array Oper} {rest : List Oper} {o : Oper} {a : Act} {Q : Exit → Act → World → Prop} (hgd : o.guard = none) {d : Operand} {t : TypeId}
  (ho:o.op=.call { callee:=.builtin .clear,args:=#[d],argTypes:=#[t] }) {v:Value} (hd:a.eval d=v) {v':Value} {w':World}
  (hr:(Builtin.clear_ #[t] o.type #[v]).run P w=.ok v' w') (h:wpList P ops Q rest (a.put o.dst v') w'):wpList P ops Q (o::rest) a w:=by
 refine wpList_plain hgd fun K hK=>?_
 unfold Oper.wp execOp;simp only [ho,resolve,invoke,builtin,Sem.run_bind,Sem.run_pure,Result.andThen_ok,List.map_toArray,List.map_cons,List.map_nil,hd,hr];exact hK _ _ h
theorem own_of_block{w w':World}{base n c:Nat}{A:Option Addr}{e:TypeId}{sz:Nat}{xs:List Value}(h:w.ownsRow base e sz (.slice A n c) n xs)(k:∀b,A.map Addr.block=some b→w'.heap[b]? = w.heap[b]?):w'.ownsRow base e sz (.slice A n c) n xs:=by
 refine⟨h.1,?_⟩;rcases h.2 with h2|⟨g,cap,cur,hv,hg,hh,r⟩
 ·exact .inl h2
 ·refine .inr ⟨g,cap,cur,hv,hg,?_,r⟩;injection hv with hA
  rw[k g (by rw[hA];rfl)];exact hh
end Go.Proofs.YtnnjjbkdjkjnpaaGreatDoor
namespace Go.Proofs.YtnnjjbkdjkjnpaaGreatDoor
open Go.RowKit Go.Sort
theorem fm_at3{α:Type}(f:α→List Value)(sz:Nat):∀(l:List α) (k j:Nat) (x:α) (u:Value),(∀y∈l,(f y).length=sz)→l[k]? = some x→(f x)[j]? = some u→(l.flatMap f)[k*sz+j]? = some u
 |[],k,j,x,u,_,hx,_=>by simp at hx
 | y::l,0,j,x,u,hl,hx,hu=>by
  simp only [List.getElem?_cons_zero,Option.some.injEq]at hx;subst hx;rw[List.flatMap_cons,Nat.zero_mul,Nat.zero_add,List.getElem?_append_left (List.getElem?_eq_some_iff.1 hu).1];exact hu
 | y::l,k+1,j,x,u,hl,hx,hu=>by
  rw[List.getElem?_cons_succ]at hx;have e1:(f y).length=sz:=hl y (List.mem_cons_self ..);rw[List.flatMap_cons,List.getElem?_append_right (by rw[e1,Nat.succ_mul];omega),e1,show(k+1)*sz+j - sz=k*sz+j by rw[Nat.succ_mul];omega];exact fm_at3 f sz l k j x u (fun z hz=>hl z (List.mem_cons_of_mem _ hz)) hx hu
theorem pf_len(l:List PtS):(l.flatMap encPt).length=l.length*33:=by
 induction l with
 | nil=>rfl
 | cons x l ih=>rw[List.flatMap_cons,List.length_append,ih,encPt_len,List.length_cons];omega
theorem pf_take:∀(l:List PtS) (k:Nat),(l.flatMap encPt).take (k*33)=(l.take k).flatMap encPt
 |[],k=>by simp
 | x::l,0=>by simp
 | x::l,k+1=>by
  have h1:=encPt_len x;rw[List.flatMap_cons,List.take_succ_cons,List.flatMap_cons,List.take_append,List.take_of_length_le (by omega),h1,show(k+1)*33 - 33=k*33 by omega,pf_take l k]
theorem pf_drop:∀(l:List PtS) (k:Nat),(l.flatMap encPt).drop (k*33)=(l.drop k).flatMap encPt
 |[],k=>by simp
 | x::l,0=>by simp
 | x::l,k+1=>by
  have h1:=encPt_len x;rw[List.flatMap_cons,List.drop_succ_cons,List.drop_append,List.drop_of_length_le (by omega),h1,show(k+1)*33 - 33=k*33 by omega,pf_drop l k];rfl
theorem pf_set{l:List PtS}{i:Nat}(x:PtS)(h:i < l.length):splice (l.flatMap encPt) (i*33) (encPt x)=(l.set i x).flatMap encPt:=by
 unfold splice;rw[pf_take,encPt_len,show i*33+33=(i+1)*33 by omega,pf_drop,List.set_eq_take_append_cons_drop,if_pos h,List.flatMap_append,List.flatMap_cons]
def OwnP(w:World)(base:Nat)(A:Option Addr)(n c:Nat)(ys:List PtS):Prop:=w.ownsRow base 69 33 (.slice A n c) n (ys.flatMap encPt)
theorem OwnP.len{w:World}{base n c:Nat}{A:Option Addr}{ys:List PtS}(h:OwnP w base A n c ys):ys.length=n:=by have:=h.1;rw[pf_len]at this;omega
theorem OwnP.call{w w':World}{base n c:Nat}{A:Option Addr}{ys:List PtS}(h:OwnP w base A n c ys)(k:Below w.heap.size w w'):OwnP w' base A n c ys:=own_below h k
theorem OwnP.form{w:World}{base n c:Nat}{A:Option Addr}{ys:List PtS}(h:OwnP w base A n c ys)(hn:0 < n):∃g cur,A=some ⟨g,0,none⟩∧base≤g∧g < w.heap.size∧n≤c∧c≤maxLen∧Blk w g 69 cur∧cur.length=c*33∧cur.take (n*33)=ys.flatMap encPt:=by
 rcases h.2 with ⟨hv,h0⟩|⟨g,cap,cur,hv,hbg,hh,hcap,hm,hs,ht⟩
 ·omega
 ·injection hv with hA _ hc
  subst hc;exact⟨g,cur.toList,hA,hbg,(Array.getElem?_eq_some_iff.1 hh).1,hcap,hm,by unfold Blk;rw[Array.toArray_toList];exact hh,by rw[Array.length_toList];exact hs,ht⟩
theorem OwnP.at_{w:World}{base g n c:Nat}{ys:List PtS}(h:OwnP w base (some ⟨g,0,none⟩) n c ys){k:Nat}{x:PtS}(hk:ys[k]? = some x):∀j u,(encPt x)[j]? = some u→w.cell? ⟨g,k*33+j,none⟩=some u:=by
 intro j u hu;have hkl:=(List.getElem?_eq_some_iff.1 hk).1;have hl:=h.len;obtain⟨g',cur,hA,_,_,_,_,hb,_,ht⟩:=h.form (by omega);injection hA with hA;injection hA with hA;subst hA
 have hc:=fm_at3 encPt 33 ys k j x u (fun y _=>encPt_len y) hk hu;rw[← ht,List.getElem?_take]at hc;split at hc
 ·exact hb.at_ hc
 ·cases hc
theorem OwnP.set_{w w':World}{base g n c i:Nat}{ys:List PtS}{cur:List Value}(h:OwnP w base (some ⟨g,0,none⟩) n c ys)(hi:i < n)(hb:Blk w g 69 cur)(x:PtS)(hb':Blk w' g 69 (splice cur (i*33) (encPt x))):OwnP w' base (some ⟨g,0,none⟩) n c (ys.set i x):=by
 have hl:=h.len;obtain⟨g',cur',hA,h1,h2,h3,h4,hbb,h5,ht⟩:=h.form (by omega);injection hA with hA;injection hA with hA;subst hA
 have hcc:cur'=cur:=by
  unfold Blk at hb hbb;rw[hb]at hbb;injection hbb with hbb;injection hbb with hbb
  have:=congrArg Array.toList hbb;simpa using this.symm
 subst hcc;have hxl:=encPt_len x;have hi33:i*33+33≤n*33:=by omega
 have hn33:n*33≤c*33:=by omega
 refine⟨by rw[pf_len,List.length_set,hl],.inr ⟨g,c,_,rfl,h1,hb',h3,h4,by rw[List.size_toArray,length_splice _ _ _ (by omega),h5],?_⟩⟩;rw[List.toList_toArray,← pf_set x (by omega),← ht]
 apply List.ext_getElem?
 intro k;rw[List.getElem?_take,splice_get _ _ _ _ (by omega),splice_get _ _ _ _ (by rw[List.length_take];omega),List.getElem?_take];split
 ·rfl
 ·split
  ·omega
  ·rfl
theorem blk_setC{g:Nat}{t:TypeId}:∀(vs:List Value) (o:Nat) (w:World) (cs:List Value),Blk w g t cs→o+vs.length≤cs.length→Blk (w.setCells g o vs) g t (splice cs o vs)
 |[],o,w,cs,h,_=>by simpa [splice,World.setCells] using h
 | v::r,o,w,cs,h,hl=>by
  simp only [List.length_cons]at hl;have h1:=blk_setC r (o+1) _ _ (h.set_ o v) (by rw[List.length_set];omega)
  have e:splice (cs.set o v) (o+1) r=splice cs o (v::r):=by
   apply List.ext_getElem?
   intro k;rw[splice_get _ _ _ _ (by rw[List.length_set];omega),splice_get _ _ _ _ (by simp only [List.length_cons];omega)];simp only [List.length_cons];by_cases h1:k=o
   ·subst h1;rw[if_neg (by omega),if_pos (by omega),List.getElem?_set,if_pos rfl,if_pos (by omega),Nat.sub_self];rfl
   ·by_cases h2:o+1≤k∧k < o+1+r.length
    ·rw[if_pos h2,if_pos (by omega),show k - o=(k - (o+1))+1 by omega,List.getElem?_cons_succ]
    ·rw[if_neg h2,if_neg (by omega),List.getElem?_set,if_neg (by omega)]
  rw[e]at h1;exact h1
theorem grown_tr{a b c:World}{r:Option Nat}(h:a.grownBy b r)(k:b.grownBy c r):a.grownBy c r:=
 ⟨k.os.trans h.os,k.tape.trans h.tape,k.output.trans h.output,Nat.le_trans h.size k.size,fun i hi hn=>(k.block i (Nat.lt_of_lt_of_le hi h.size) hn).trans (h.block i hi hn)⟩
theorem grown_setC(g:Nat):∀(vs:List Value) (o:Nat) (w:World),w.grownBy (w.setCells g o vs) (some g)∧(w.setCells g o vs).heap.size=w.heap.size
 |[],o,w=>⟨⟨rfl,rfl,rfl,Nat.le_refl _,fun _ _ _=>rfl⟩,rfl⟩
 | v::r,o,w=>by
  obtain⟨h1,h2⟩:=grown_setC g r (o+1) (w.setCell ⟨g,o,none⟩ v);exact⟨grown_tr (grown_set w g o v) h1,h2.trans (by simp)⟩
section
variable {P:Program} {ops:Array Oper} {rest:List Oper} {o:Oper} {a:Act} {w:World} {Q:Exit→Act→World→Prop}
theorem wpl_storep (hgd : o.guard = none) {T : TypeId} {x y : Operand} (ho : o.op = .store T x y) {n : Nat} (hT : RowT P T n) {g off : Nat} {t : TypeId} {old cs : List Value} (hb : Blk w g t old) (hx : a.eval x = .pointer (some ⟨g, off, none⟩)) (hy : a.eval y = .agg cs.toArray)
  (hn:cs.length=n) (hle:off+n≤old.length) (h1:∀u∈cs,u.oneCell'=true)
  (h:∀w',Blk w' g t (splice old off cs)→w.grownBy w' (some g)→w'.heap.size=w.heap.size→wpList P ops Q rest (a.put o.dst undef) w'):wpList P ops Q (o::rest) a w:=by
 obtain⟨d,hu,hd,hi⟩:=hT;refine wpList_store_mid hgd T x y ho g off cs.toArray hx hy (fun j hj=>?_) (by rw[hi];simp [hn]) (all_oneCell_toArray h1) ?_
 ·simp only [List.size_toArray]at hj;exact⟨by rw[hb.at_ (List.getElem?_eq_getElem (show off+j < old.length by omega))];rfl,hb.frozen _⟩
 ·obtain⟨h2,h3⟩:=grown_setC g cs off w;exact h _ (blk_setC cs off w old hb (by omega)) h2 h3
end
def firstAt(d:PtS→Bool)(l:List PtS)(r:Int):Prop:=(r=-1∧∀x∈l,d x=false)∨∃i x,r=((i:Nat):Int)∧l[i]? = some x∧d x=true∧∀y∈l.take i,d y=false
def ofV(Bl Bi:Nat):Value:=.func (.func 58) #[] #[.pointer (some ⟨Bl,0,none⟩),.pointer (some ⟨Bi,0,none⟩)]
theorem ix_any (Z : Nat) (w0 : World) (hZ : Z ≤ w0.heap.size) (Bl Bi : Nat) (dl : PtS → Bool) (HD : ∀ w', Below Z w0 w' → ∀ x : PtS, Calls Tryz.prog 58 #[ptA x.1, .pointer (some ⟨Bl, 0, none⟩), .pointer (some ⟨Bi, 0, none⟩)] w' fun e w'' => e = .returned (.bool (dl x)) ∧ Below w'.heap.size w' w'')
  {A:Option Addr} {n c:Nat} {ks:List PtS} (w:World) (hB:Below Z w0 w) (h:OwnP w Z A n c ks) (hn:n≤1000000) :
  Calls Tryz.prog 90 #[.slice A n c,ofV Bl Bi] w fun e w'=>∃r,e=.returned (.int .i64 r)∧firstAt dl ks r∧Below w.heap.size w w':=by
 have HO:=kp h;have HL:=kp h.len;have HB0:=kp hB;have HDD:=kp HD;have HZZ:=kp (Nat.le_trans hZ hB.size);unfold ofV;clear h HD hB hZ
 go_enter Tryz.func90,Tryz.ntmps90
 go_wp2_with fail;go_loopw [8] (fun iv wr=>∃k:Nat,k≤n∧iv=.int .i64 k∧Hid ((∀y∈ks.take k,dl y=false)∧Below w.heap.size w wr)) (fun iv _=>n - (intOf iv).toNat)
 case atStart=>exact⟨0,by omega,rfl,kp ⟨by simp,Below.refl _ _⟩⟩
 case round =>
  obtain⟨k,hk,rfl,hI⟩:=hrel;have HT:=kp hI.o.1;have HB:=kp hI.o.2;clear hI;by_cases hlt:k < n
  ·have hkk:ks[k]? = some (ks[k]'(by have:=HL.o;omega)):=List.getElem?_eq_getElem _;obtain⟨x,hx⟩:∃x,x=ks[k]'(by have:=HL.o;omega):=⟨_,rfl⟩;rw[← hx]at hkk;have HKK:=kp hkk;have HOR:=kp (HO.o.call HB.o);obtain⟨g,cur,rfl,-⟩:=HO.o.form (by omega);have HCE:=kp (HOR.o.at_ hkk);have HXL:=kp (encPt_len x);have HCL:=kp (HDD.o wr (HB0.o.trans (HB.o.mono HZZ.o)) x);obtain⟨r,hr⟩:=xe (dl x);rw[← hr]at HCL;have HRX:=kp hr;clear hkk hx hr;rw[show ptA x.1=.agg (encPt x).toArray from rfl]at HCL;obtain⟨xs,hxs⟩:=xe (encPt x);rw[← hxs]at HCE HXL HCL;clear hxs;go_wp2_with (with_reducible refine wlm 15 row_point HCE.o HXL.o ?_);refine HCL.o.mono ?_;rintro e w2 ⟨rfl,hb2⟩;have HB2:=kp (HB.o.trans (hb2.mono HB.o.size));clear hb2;cases r with
   | true =>
    go_wp2_with fail;go_ret
    exact⟨k,rfl,.inr ⟨k,x,rfl,HKK.o,HRX.o.symm,HT.o⟩,HB2.o⟩
   | false =>
    have HT2:=kp (show ∀y∈ks.take (k+1),dl y=false from fun y hy=>by
     rw[List.take_add_one,HKK.o]at hy;rcases List.mem_append.1 hy with hy|hy
     ·exact HT.o y hy
     ·have:y=x:=by simpa using hy
      rw[this];exact HRX.o.symm)
    go_wp2_with fail;go_roundw
    case rel=>exact⟨k+1,by omega,by go_num,kp ⟨HT2.o,HB2.o⟩⟩
    case measure=>simp [intOf];omega
  ·obtain rfl:k=n:=by omega
   go_wp2_with fail;go_ret
   refine⟨-1,rfl,.inl ⟨rfl,?_⟩,HB.o⟩;have:=HT.o;rw[List.take_of_length_le (by have:=HL.o;omega)]at this;exact this
end Go.Proofs.YtnnjjbkdjkjnpaaGreatDoor
namespace Go.Proofs.YtnnjjbkdjkjnpaaGreatDoor
open Go.RowKit
def encAtC(e:PtK×CoinV):List Value:=ptV e.1++coinV e.2
def AtOKC(e:PtK×CoinV):Prop:=PtOK e.1∧CoinOK e.2
theorem encAtC_len{e:PtK×CoinV}(h:AtOKC e):(encAtC e).length=66:=by unfold encAtC;rw[List.length_append,ptV_length h.1.1,coinV_length h.2]
def RowC(w:World)(A:Option Addr)(n:Nat)(l:CoinsL):Prop:=Sl w w.heap.size 66 A n (l.flatMap encAtC)∧(∀e∈l,AtOKC e)∧l.length=n
theorem RowC.call{w w':World}{A:Option Addr}{n:Nat}{l:CoinsL}(h:RowC w A n l)(hb:Below w.heap.size w w'):RowC w' A n l:=⟨(h.1.below hb).more hb.size,h.2⟩
theorem RowC.at_ {w : World} {A : Option Addr} {n : Nat} {l : CoinsL} (h : RowC w A n l) {k : Nat} (hk : k < n) :
  ∃b off e,A=some ⟨b,off,none⟩∧b < w.heap.size∧l[k]? = some e∧AtOKC e∧∀j u,(encAtC e)[j]? = some u→w.cell? ⟨b,off+k*66+j,none⟩=some u:=by
 obtain⟨hs,ho,hl⟩:=h;obtain⟨b,off,e,hb,hc⟩:=hs.2 (by omega);have hk2:k < l.length:=by omega
 refine⟨b,off,l[k],e,hb,List.getElem?_eq_getElem hk2,ho _ (List.getElem_mem hk2),fun j u hu=>?_⟩;have h2:=hc (k*66+j) u (fm_at3 encAtC 66 l k j _ u (fun y hy=>encAtC_len (ho y hy)) (List.getElem?_eq_getElem hk2) hu);rw[← Nat.add_assoc]at h2;exact h2
theorem encAtC_amt{e:PtK×CoinV}(h:AtOKC e):(encAtC e)[65]? = some (.int .u64 e.2.2):=by
 have h1:=ptV_length h.1.1;unfold encAtC;rw[List.getElem?_append_right (by omega),h1];unfold coinV;rw[List.getElem?_append_right (by simp [h.2.1])];simp [h.2.1]
def amtC(l:CoinsL):Int:=(l.map fun e=>e.2.2).sum
theorem amtC_snoc{l:CoinsL}{k:Nat}{e:PtK×CoinV}(h:l[k]? = some e):amtC (l.take (k+1))=amtC (l.take k)+e.2.2:=by
 unfold amtC;rw[List.take_add_one,h,List.map_append,List.sum_append_int];simp
theorem amtC_nn:∀{l:CoinsL},(∀e∈l,AtOKC e)→0≤amtC l
 |[],_=>by simp [amtC]
 | e::l,h=>by
  have h1:=amtC_nn (l:=l) (fun x hx=>h x (List.mem_cons_of_mem _ hx));have h2:=(h e (List.mem_cons_self ..)).2.2.1;unfold amtC at h1 ⊢;rw[List.map_cons,List.sum_cons];omega
theorem amtC_le{l:CoinsL}(h:∀e∈l,AtOKC e)(k:Nat):amtC (l.take k)≤amtC l:=by
 have h1:=amtC_nn (l:=l.drop k) (fun x hx=>h x (List.mem_of_mem_drop hx))
 have h2:amtC l=amtC (l.take k)+amtC (l.drop k):=by
  unfold amtC;rw[← List.sum_append_int,← List.map_append,List.take_append_drop]
 omega
theorem rsum19_any {A : Option Addr} {n c : Nat} {l : CoinsL} (w : World) (h : RowC w A n l) (hn : n ≤ 1000000) (hs : amtC l ≤ 18446744073709551615) :
  Calls Tryz.prog 65 #[.slice A n c] w fun e w'=>e=.returned (.int .u64 (amtC l))∧w=w':=by
 have HH:=kp h;have HN:=kp (fun k=>amtC_nn (l:=l.take k) (fun x hx=>h.2.1 x (List.mem_of_mem_take hx)));have HL:=kp (fun k=>amtC_le h.2.1 k);clear h
 go_enter Tryz.func65,Tryz.ntmps65
 go_wp2_with fail;go_loopw [3,4] (fun s3 iv wr=>∃k:Nat,k≤n∧iv=.int .i64 k∧s3=.int .u64 (amtC (l.take k))∧Hid (w=wr)) (fun _ iv _=>n - (intOf iv).toNat)
 case atStart=>exact⟨0,by omega,rfl,rfl,kp rfl⟩
 case round =>
  obtain⟨k,hk,rfl,rfl,hI⟩:=hrel;obtain rfl:=hI.o;by_cases hlt:k < n
  ·obtain⟨b,off,e,rfl,_,he,hok,hc⟩:=HH.o.at_ hlt;have c1:=hc 65 _ (encAtC_amt hok);have h1:=HN.o (k+1);have h2:=HL.o (k+1);have HSN:=kp (amtC_snoc he);rw[HSN.o]at h1 h2;have v1:IntKind.u64.wrap (amtC (l.take k)+e.2.2)=amtC (l.take k)+e.2.2:=u64_in _ ⟨by omega,by omega⟩;clear he hok hc;obtain⟨sk,hsk⟩:=xe (amtC (l.take k));rw[← hsk]at HSN h1 h2 v1 ⊢;clear hsk;go_wp2_with fail;go_roundw
   case rel=>exact⟨k+1,by omega,by go_num,by rw[HSN.o],kp (by first|trivial|rfl)⟩
   case measure=>simp [intOf];omega
  ·obtain rfl:k=n:=by omega
   have HE:=kq (l.take k=l) (List.take_of_length_le (by rw[HH.o.2.2];exact Nat.le_refl _));rw[HE.o];go_wp2_with fail;go_ret
   exact⟨rfl,rfl⟩
theorem encAtC_pt{e:PtK×CoinV}(h:AtOKC e){j:Nat}{u:Value}(hu:(ptV e.1)[j]? = some u):(encAtC e)[0+j]? = some u:=by
 unfold encAtC;rw[Nat.zero_add,List.getElem?_append_left (List.getElem?_eq_some_iff.1 hu).1];exact hu
theorem encAtC_coin{e:PtK×CoinV}(h:AtOKC e){j:Nat}{u:Value}(hu:(coinV e.2)[j]? = some u):(encAtC e)[33+j]? = some u:=by
 have h1:=ptV_length h.1.1;unfold encAtC;rw[List.getElem?_append_right (by omega),h1,show 33+j - 33=j by omega];exact hu
theorem lookC_first{l:CoinsL}{p:PtK}{k:Nat}{e:PtK×CoinV}(he:l[k]? = some e)(hp:e.1=p)(hn:∀x∈l.take k,x.1≠p):lookC l p=some e.2:=by
 have h1:l=l.take k++e::l.drop (k+1):=by
  have hk:=(List.getElem?_eq_some_iff.1 he).1;have h2:=List.take_append_drop k l;rw[List.drop_eq_getElem_cons hk,(List.getElem?_eq_some_iff.1 he).2]at h2;exact h2.symm
 unfold lookC;rw[h1,List.find?_append,List.find?_eq_none.2 (fun x hx=>by simpa using hn x hx),List.find?_cons_of_pos (by simpa using hp)]
 rfl
theorem lookC_not{l:CoinsL}{p:PtK}(hn:∀x∈l,x.1≠p):lookC l p=none:=by
 unfold lookC;rw[List.find?_eq_none.2 (fun e he=>by simpa using hn e he)];rfl
theorem built_coin0:Tryz.prog.built 77 []=some (coinV noCoin).toArray:=by kernel_rfl
theorem rget19_any {A : Option Addr} {n c : Nat} {l : CoinsL} (p : PtK) (w : World) (h : RowC w A n l) (hp : PtOK p) (hn : n ≤ 1000000) :
  Calls Tryz.prog 61 #[.slice A n c,ptA p] w fun e w'=>e=.returned (.tuple #[coinA ((lookC l p).getD noCoin),.bool (lookC l p).isSome])∧Below w.heap.size w w':=by
 have HH:=kp h;have HP:=kp hp;have HX:=kp (ptV_length hp.1);clear h hp;rw[ptA];obtain⟨xs,hxs⟩:=xe (ptV p);have HXE:=kp hxs;rw[← hxs]at HX ⊢;clear hxs;obtain⟨z,hz⟩:=xe w.heap.size;have HZ:=kp hz;clear hz
 go_enter Tryz.func61,Tryz.ntmps61
 go_wp2_with (with_reducible first|refine wpl_box (o:=⟨some 3,_,_,_,_,_⟩) rfl rfl rfl ?_);intro w1 hb1 hbw1 hsz1;rw[← HZ.o]at hb1 hbw1 hsz1 ⊢;go_wp2_with (with_reducible first|refine wpl_alloc (o:=⟨some 4,_,_,_,_,_⟩) rfl rfl zero_coin ?_);intro w2 hb2 hbw2 hsz2;have HB1:=kp (hb1.below hbw2 (by omega));have HB2:=kp hb2;have HBW:=kp (hbw1.trans (hbw2.mono (by omega)));clear hb1 hb2 hbw1 hbw2 hsz1 hsz2;go_wp2_with fail;go_loopw [6] (fun iv wr=>∃k:Nat,k≤n∧iv=.int .i64 k∧Hid ((∀x∈l.take k,x.1≠p)∧Blk wr z 69 xs∧Blk wr (z+1) 77 (coinV noCoin)∧Below z w wr)) (fun iv _=>n - (intOf iv).toNat)
 case atStart=>exact⟨0,by omega,rfl,kp ⟨by simp,HB1.o,HB2.o,HBW.o⟩⟩
 case round =>
  obtain⟨k,hk,rfl,hI⟩:=hrel;clear HB1 HB2 HBW;have HT:=kp hI.o.1;have HB1:=kp hI.o.2.1;have HB2:=kp hI.o.2.2.1;have HB:=kp hI.o.2.2.2;clear hI;by_cases hlt:k < n
  ·have HR:=kq (RowC wr A n l) (HH.o.call (by rw[← HZ.o];exact HB.o));obtain⟨b,off,e,rfl,_,he,hok,hc⟩:=HR.o.at_ hlt;have HE:=kp he;have HOK:=kp hok;have HC:=kp hc;have HCP:=kp (fun j u (hu:(ptV e.1)[j]? = some u)=>hc (0+j) u (encAtC_pt hok hu));have HEL:=kp (ptV_length hok.1.1);have HQ:=kp (eql_pt e.1 p hok.1 HP.o);rw[← HXE.o]at HQ;obtain⟨r,hr⟩:=xe (decide (e.1=p));rw[← hr]at HQ;have HRR:=kp hr;obtain⟨es,hes⟩:=xe (ptV e.1);rw[← hes]at HCP HEL HQ;clear he hok hc hr hes;go_wp2_with fail;repeat' (first|(with_reducible refine wp_phase (id:=4) (fun(_:Nat) w'=>Below wr.heap.size wr w') [] [(0,0),(0,0),(0,0),(0,0),(0,0),(0,0),(0,0)] (by kernel_rfl) (by kernel_rfl) ?_ ?_)|go_values|go_skip|go_guarded|go_step|go_upon|go_back)
   ·exact Drawn.all (Drawn.one wr)
   refine ph_value rfl (by first|rfl|go_simp) (fun k_ _ _ w_ hC_=>by first|(go_simp;rfl)|(go_simp;done)|rfl) (fun K hK=>?_);go_simp;refine hK _ ?_;clear hK K;refine ph_value rfl (by first|rfl|go_simp) (fun k_ _ _ w_ hC_=>by first|(go_simp;rfl)|(go_simp;done)|rfl) (fun K hK=>?_);go_simp;refine hK _ ?_;clear hK K;refine ph_value rfl (by first|rfl|go_simp) (fun k_ _ _ w_ hC_=>by first|(go_simp;rfl)|(go_simp;done)|rfl) (fun K hK=>?_);go_simp;refine hK _ ?_;clear hK K;refine ph_value rfl (by first|rfl|go_simp) (fun k_ _ _ w_ hC_=>by first|(go_simp;rfl)|(go_simp;done)|rfl) (fun K hK=>?_);go_simp;refine hK _ ?_;clear hK K;refine ph_loadmk rfl rfl rfl row_point (fun k _ _ w h j u hu=>bcell h (by have:=HCP.o j u hu;rwa [Nat.zero_add]at this)) (by first|rfl|(go_simp;done)) HEL.o ?_
   (intro K hK;go_simp;refine hK _ ?_;clear hK K)
   refine ph_load rfl rfl rfl row_point (fun k _ _ w h=>HB1.o.call h) rfl HX.o ?_
   (intro K hK;go_simp;refine hK _ ?_;clear hK K)
   have heq:=HQ.o;refine ph_value rfl (by first|rfl|go_simp) (fun k_ _ _ w_ hC_=>by first|(go_simp;rfl)|(go_simp;done)|rfl) (fun K hK=>?_);go_simp;refine hK _ ?_;clear hK K;refine ph_nil ?_;intro w3 hl3;have HB1':=kp (HB1.o.call hl3);have HB2':=kp (HB2.o.call hl3);have HB3:=kp (HB.o.trans (hl3.mono (by rw[HZ.o];exact HB.o.size)));have HC3:=kp (fun j u (hu:(encAtC e)[j]? = some u)=>bcell hl3 (HC.o j u hu));clear hl3 HB1 HB2 HB;cases r with
   | false =>
    have HT2:=kp (show ∀x∈l.take (k+1),x.1≠p from fun x hx=>by
     rw[List.take_add_one,HE.o]at hx;rcases List.mem_append.1 hx with hx|hx
     ·exact HT.o x hx
     ·have:x=e:=by simpa using hx
      rw[this];exact of_decide_eq_false HRR.o.symm)
    go_wp2_with fail;go_roundw
    case rel=>exact⟨k+1,by omega,by go_num,kp ⟨HT2.o,HB1'.o,HB2'.o,HB3.o⟩⟩
    case measure=>simp [intOf];omega
   | true =>
    have HLC:=kp (lookC_first HE.o (of_decide_eq_true HRR.o.symm) HT.o);have HCC:=kp (fun j u (hu:(coinV e.2)[j]? = some u)=>(by have:=HC3.o (33+j) u (encAtC_coin HOK.o hu);rwa [← Nat.add_assoc]at this:w3.cell? ⟨b,off+k*66+33+j,none⟩=some u));have HCL:=kp (coinV_length HOK.o.2);have HC1:=kp (coinV_one e.2);obtain⟨cs,hcs⟩:=xe (coinV e.2);have HCS:=kp hcs;rw[← hcs]at HCC HCL HC1;clear heq hcs;go_wp2_with (with_reducible first|refine wlm 24 row_coin HCC.o HCL.o ?_|refine wpl_storeb (o:=⟨none,.store _ _ _,_,_,_,_⟩) rfl rfl row_coin HB2'.o rfl rfl (coinV_length noCoin_ok) HCL.o HC1.o ?_);intro w4 hb4 hg4 hs4;have H4:=kp hb4;have HB4:=kp (HB3.o.grown hg4 (by rw[HZ.o];exact HB3.o.size) (fun q hq=>by cases hq;omega));clear hb4 hg4 hs4;go_wp2_with fail;refine ret_cell_tmp rfl row_coin H4.o rfl HCL.o rfl rfl ?_;exact⟨by rw[HLC.o,HCS.o];rfl,by rw[← HZ.o];exact HB4.o⟩
  ·obtain rfl:k=n:=by omega
   have HLC:=kp (lookC_not (l:=l) (p:=p) (by have h1:=HT.o;rw[List.take_of_length_le (by rw[HH.o.2.2];exact Nat.le_refl _)] at h1;exact h1));have HCL:=kp (coinV_length noCoin_ok);have HC1:=kp (coinV_one noCoin);have HBT:=kp built_coin0;obtain⟨cs,hcs⟩:=xe (coinV noCoin);have HCS:=kp hcs;rw[← hcs]at HCL HC1 HBT HB2;clear hcs;go_wp2_with (first|(refine wpl_build (o:=⟨some 25,_,_,_,_,_⟩) rfl rfl HBT.o ?_)|(with_reducible refine wsb row_coin HB2.o HCL.o HCL.o HC1.o ?_));intro w4 hb4 hg4 hs4;have H4:=kp hb4;have HB4:=kp (HB.o.grown hg4 (by rw[HZ.o];exact HB.o.size) (fun q hq=>by cases hq;omega));clear hb4 hg4 hs4;go_wp2_with fail;refine ret_cell_tmp rfl row_coin H4.o rfl HCL.o rfl rfl ?_;exact⟨by rw[HLC.o,HCS.o];rfl,by rw[← HZ.o];exact HB4.o⟩
open Go.RowKit Go.Maps Go.Sort Go.Shelf
def insC(p:PtK)(c:CoinV):CoinsL→CoinsL
 |[]=>[(p,c)]
 | e::r=>if cmpP p e.1 < 0 then(p,c)::e::r else e::insC p c r
def rputC(X:CoinsL)(p:PtK)(c:CoinV):CoinsL×Int:=
 if p.2 < 0∨16≤p.2∨c.2=0∨4611686018427387904 < c.2 then(X,5) else if(lookC X p).isSome then(X,24) else if 256≤X.length then(X,18) else if 4611686018427387904 - c.2 < amtC X then(X,6) else(insC p c X,0)
def cutC(X:CoinsL)(p:PtK):CoinsL:=X.filter (fun e=>!(e.1 == p))
def SortC(X:CoinsL):Prop:=X.Pairwise (fun a b=>cmpP a.1 b.1 < 0)
theorem insC_done{p:PtK}{c:CoinV}:∀{Y Z:CoinsL},(∃e∈Y,cmpP p e.1 < 0)→insC p c (Y++Z)=insC p c Y++Z
 |[],_,h=>by obtain⟨e,he,_⟩:=h;cases he
 | y::Y,Z,h=>by
  unfold insC;rw[List.cons_append];show(if cmpP p y.1 < 0 then(p,c)::y::(Y++Z) else y::insC p c (Y++Z))=_
  by_cases hy:cmpP p y.1 < 0
  ·rw[if_pos hy,if_pos hy];rfl
  ·rw[if_neg hy,if_neg hy]
   rw[insC_done (Y:=Y) (by
    obtain⟨e,he,h2⟩:=h;rcases List.mem_cons.1 he with rfl|he
    ·exact absurd h2 hy
    ·exact⟨e,he,h2⟩)]
   rfl
theorem insC_not{p:PtK}{c:CoinV}:∀{Y Z:CoinsL},(∀e∈Y,¬ cmpP p e.1 < 0)→insC p c (Y++Z)=Y++insC p c Z
 |[],_,_=>rfl
 | y::Y,Z,h=>by
  rw[List.cons_append,insC,if_neg (h y (List.mem_cons_self ..)),insC_not (fun e he=>h e (List.mem_cons_of_mem _ he))]
  rfl
theorem insC_perm(p:PtK)(c:CoinV):∀X:CoinsL,(insC p c X).Perm ((p,c)::X)
 |[]=>.refl _
 | e::r=>by
  unfold insC;by_cases h:cmpP p e.1 < 0
  ·rw[if_pos h]
  ·rw[if_neg h];exact((insC_perm p c r).cons e).trans (List.Perm.swap _ _ _)
theorem insC_sort{p:PtK}{c:CoinV}:∀{X:CoinsL},SortC X→(∀e∈X,e.1≠p)→SortC (insC p c X)
 |[],_,_=>by unfold SortC insC;simp
 | e::r,h,hn=>by
  unfold SortC at h;rw[List.pairwise_cons]at h;unfold insC;by_cases hp:cmpP p e.1 < 0
  ·rw[if_pos hp];unfold SortC;rw[List.pairwise_cons,List.pairwise_cons];refine⟨fun x hx=>?_,h⟩;rcases List.mem_cons.1 hx with rfl|hx
   ·exact hp
   ·exact cmpP_lt_trans hp (h.1 x hx)
  ·rw[if_neg hp];unfold SortC;rw[List.pairwise_cons];refine⟨fun x hx=>?_,insC_sort h.2 (fun y hy=>hn y (List.mem_cons_of_mem _ hy))⟩;rcases List.mem_cons.1 ((insC_perm p c r).mem_iff.1 hx) with rfl|hx
   ·have h1:=cmpP_neg p e.1;have h2:=cmpP_zero p e.1;have h3:cmpP p e.1≠0:=fun h0=>hn e (List.mem_cons_self ..) (h2.1 h0).symm
    show cmpP e.1 p < 0
    omega
   ·exact h.1 x hx
theorem lookC_eq{L:CoinsL}(hd:(L.map (·.1)).Nodup){e:PtK×CoinV}(he:e∈L):lookC L e.1=some e.2:=by
 obtain⟨k,hk⟩:=List.mem_iff_getElem?.1 he;refine lookC_first hk rfl fun x hx hxe=>?_
 obtain⟨j,hj⟩:=List.mem_iff_getElem?.1 hx;have hkk:=(List.getElem?_eq_some_iff.1 hk).1;have hjl:=(List.getElem?_eq_some_iff.1 hj).1;rw[List.length_take]at hjl;have hj2:L[j]? = some x:=by rw[List.getElem?_take,if_pos (by omega)]at hj;exact hj
 have h1:(L.map (·.1))[j]? = some e.1:=by rw[List.getElem?_map,hj2];simp [hxe]
 have h2:(L.map (·.1))[k]? = some e.1:=by rw[List.getElem?_map,hk];rfl
 have:=(List.getElem?_inj (by rw[List.length_map];omega) hd).1 (h1.trans h2.symm);omega
theorem lookC_perm{X L:CoinsL}(h:X.Perm L)(hd:(L.map (·.1)).Nodup)(p:PtK):lookC X p=lookC L p:=by
 have hdX:(X.map (·.1)).Nodup:=(h.map (·.1)).nodup_iff.2 hd;by_cases hp:∃e∈L,e.1=p
 ·obtain⟨e,he,rfl⟩:=hp;rw[lookC_eq hd he,lookC_eq hdX (h.mem_iff.2 he)]
 ·rw[lookC_not (fun x hx hxp=>hp ⟨x,hx,hxp⟩),lookC_not (fun x hx hxp=>hp ⟨x,h.mem_iff.1 hx,hxp⟩)]
theorem amtC_perm{X L:CoinsL}(h:X.Perm L):amtC X=amtC L:=by
 unfold amtC;have:=h.map (fun e:PtK×CoinV=>e.2.2);exact this.foldr_eq' (f:=(·+·)) (fun x _ y _ z=>by omega) 0
theorem amtC_app(X Y:CoinsL):amtC (X++Y)=amtC X+amtC Y:=by unfold amtC;rw[List.map_append,List.sum_append_int]
theorem amtC_one(e:PtK×CoinV):amtC [e]=e.2.2:=by unfold amtC;simp
def IxOK(l:CoinsL):Prop:=∀e∈l,0≤e.1.2∧e.1.2≤15
structure RelC (X L:CoinsL) (s:Int):Prop where
 perm:X.Perm L
 sort:SortC X
 ok:LOK L
 sum:s=amtC L
 max:s≤4611686018427387904
 len:L.length≤256
 ix:IxOK L
theorem RelC.nil:RelC [] [] 0:=⟨.refl _,List.Pairwise.nil,⟨by simp,by simp⟩,rfl,by omega,by simp,by unfold IxOK;simp⟩
theorem RelC.ixX{X L:CoinsL}{s:Int}(h:RelC X L s):IxOK X:=fun e he=>h.ix e (h.perm.mem_iff.1 he)
theorem RelC.okX{X L:CoinsL}{s:Int}(h:RelC X L s):∀e∈X,AtOKC e:=fun e he=>h.ok.1 e (h.perm.mem_iff.1 he)
theorem RelC.nn{X L:CoinsL}{s:Int}(h:RelC X L s):0≤s:=by rw[h.sum];exact amtC_nn (fun e he=>h.ok.1 e he)
theorem RelC.amt{X L:CoinsL}{s:Int}(h:RelC X L s):amtC X=s:=by rw[h.sum];exact amtC_perm h.perm
theorem RelC.look{X L:CoinsL}{s:Int}(h:RelC X L s)(p:PtK):lookC X p=lookC L p:=lookC_perm h.perm h.ok.2 p
theorem RelC.lenX{X L:CoinsL}{s:Int}(h:RelC X L s):X.length=L.length:=h.perm.length_eq
theorem RelC.code{X L:CoinsL}{s:Int}(h:RelC X L s)(p:PtK)(c:CoinV)(hc:CoinOK c):(rputC X p c).2=putR L s p c:=by
 have h1:=h.nn;have h2:=h.max;unfold rputC putR;rw[h.look,h.lenX,h.amt];unfold addE;have:=hc.2.1;split
 ·rfl
 ·split
  ·rfl
  ·split
   ·rfl
   ·split
    ·rw[if_neg (by omega)]
    ·rw[if_pos (by omega)]
theorem RelC.put{X L:CoinsL}{s:Int}(h:RelC X L s){p:PtK}{c:CoinV}(hp:PtOK p)(hc:CoinOK c)(h0:putR L s p c=0):RelC (rputC X p c).1 (L++[(p,c)]) (addE s c.2).1:=by
 have h1:=h.nn;have h2:=h.max;have h3:=hc.2.1;have hk:=h.look p;have hlx:=h.lenX;have ham:=h.amt;unfold putR at h0;split at h0
 ·omega
 ·rename_i hr;split at h0
  ·omega
  ·rename_i hl;have hl2:(lookC L p).isSome=false:=by simpa using hl
   split at h0
   ·omega
   ·rename_i h256;unfold addE at h0 ⊢;split at h0
    ·rename_i ha;rw[if_pos ha]
     have hX:(rputC X p c).1=insC p c X:=by
      unfold rputC;rw[if_neg hr,hk,if_neg hl,hlx,if_neg h256,ham,if_neg (by omega)]
     rw[hX];have hno:=lookC_none hl2;have hpl:(insC p c X).Perm (L++[(p,c)]):=(insC_perm p c X).trans ((h.perm.cons (p,c)).trans (List.perm_append_comm (l₁:=[(p,c)]) (l₂:=L)));refine⟨hpl,insC_sort h.sort (fun e he=>hno e (h.perm.mem_iff.1 he)),⟨fun e he=>?_,?_⟩,?_,by omega,?_,fun e he=>?_⟩
     ·rcases List.mem_append.1 he with he|he
      ·exact h.ok.1 e he
      ·rw[List.mem_singleton]at he;subst he;exact⟨hp,hc⟩
     ·rw[List.map_append,List.nodup_append];refine⟨h.ok.2,by simp,fun a ha b hb hab=>?_⟩;obtain⟨e,he,rfl⟩:=List.mem_map.1 ha;simp at hb;exact hno e he (hab.trans hb)
     ·rw[amtC_app,amtC_one,h.sum]
     ·rw[List.length_append];simp;omega
     ·rcases List.mem_append.1 he with he|he
      ·exact h.ix e he
      ·rw[List.mem_singleton]at he;subst he;exact⟨by show 0≤p.2;omega,by show p.2≤15;omega⟩
    ·simp at h0
theorem rputC_same{X:CoinsL}{p:PtK}{c:CoinV}(h:(rputC X p c).2≠0):(rputC X p c).1=X:=by
 unfold rputC at *
 (repeat' split) <;> first|rfl|skip
 all_goals simp_all
theorem dropC_eq{L:CoinsL}{p:PtK}(hd:(L.map (·.1)).Nodup):dropC L p=cutC L p:=by
 induction L with
 | nil=>rfl
 | cons e r ih =>
  rw[List.map_cons,List.nodup_cons]at hd;unfold dropC cutC at *;by_cases h:e.1=p
  ·rw[List.eraseP_cons_of_pos (by simpa using h),List.filter_cons_of_neg (by simpa using h)]
   exact(List.filter_eq_self.2 (fun x hx=>by
    have:x.1≠p:=fun hxp=>hd.1 (List.mem_map.2 ⟨x,hx,by rw[hxp,h]⟩)
    simpa using this)).symm
  ·rw[List.eraseP_cons_of_neg (by simpa using h),List.filter_cons_of_pos (by simpa using h),ih hd.2]
theorem amtC_cut{L:CoinsL}{p:PtK}(hd:(L.map (·.1)).Nodup):amtC (cutC L p)=amtC L - ((lookC L p).getD noCoin).2:=by
 induction L with
 | nil=>rfl
 | cons e r ih =>
  rw[List.map_cons,List.nodup_cons]at hd;by_cases h:e.1=p
  ·have h1 : cutC (e :: r) p = r := by
    unfold cutC;rw[List.filter_cons_of_neg (by simpa using h)]
    exact List.filter_eq_self.2 (fun x hx=>by
     have:x.1≠p:=fun hxp=>hd.1 (List.mem_map.2 ⟨x,hx,by rw[hxp,h]⟩)
     simpa using this)
   have h2:lookC (e::r) p=some e.2:=by unfold lookC;rw[List.find?_cons_of_pos (by simpa using h)];rfl
   rw[h1,h2];unfold amtC;rw[List.map_cons,List.sum_cons];simp only [Option.getD_some];omega
  ·have h1:cutC (e::r) p=e::cutC r p:=by unfold cutC;rw[List.filter_cons_of_pos (by simpa using h)]
   have h2:lookC (e::r) p=lookC r p:=by unfold lookC;rw[List.find?_cons_of_neg (by simpa using h)]
   have h3:=ih hd.2;rw[h1,h2];unfold amtC at h3 ⊢;rw[List.map_cons,List.sum_cons,List.map_cons,List.sum_cons,h3];omega
theorem RelC.amtp{X L:CoinsL}{s:Int}(h:RelC X L s)(p:PtK):0≤((lookC L p).getD noCoin).2∧((lookC L p).getD noCoin).2≤s:=by
 have h1:=amtC_cut (p:=p) h.ok.2;have h2:=amtC_nn (l:=cutC L p) (fun e he=>h.ok.1 e (List.mem_filter.1 he).1);have h3:=h.sum;refine⟨?_,by omega⟩;cases hl:lookC L p with
 | none=>simp [noCoin]
 | some c =>
  obtain⟨e,he,rfl⟩:=Option.map_eq_some_iff.1 (show(L.find? (fun e=>e.1 == p)).map (·.2)=some c from hl);exact(h.ok.1 e (List.mem_of_find?_eq_some he)).2.2.1
theorem RelC.take{X L:CoinsL}{s:Int}(h:RelC X L s)(p:PtK):RelC (cutC X p) (dropC L p) (s - ((lookC L p).getD noCoin).2):=by
 have h1:=amtC_cut (p:=p) h.ok.2;have h2:=h.amtp p;rw[dropC_eq h.ok.2];refine⟨h.perm.filter _,List.Pairwise.filter _ h.sort,⟨fun e he=>h.ok.1 e (List.mem_filter.1 he).1,?_⟩,?_,?_,?_,fun e he=>h.ix e (List.mem_filter.1 he).1⟩
 ·exact List.Nodup.sublist (List.Sublist.map _ List.filter_sublist) h.ok.2
 ·rw[h1,h.sum]
 ·have:=h.max;omega
 ·exact Nat.le_trans (List.length_filter_le _ _) h.len
theorem RelC.all{X L:CoinsL}{s:Int}(h:RelC X L s){ks ss:List PtS}(hp:(ks.map (·.1)).Perm (L.map (·.1)))(hs:ks=sortP ss):ks.map (·.1)=X.map (·.1):=by
 have tr:∀x y z:PtS,(!(ltOf cfPt) y x)=true→(!(ltOf cfPt) z y)=true→(!(ltOf cfPt) z x)=true:=fun x y z h1 h2=>by
  simp only [Bool.not_eq_true']at *;exact swo_pt.ntrans z y x h2 h1
 have tto:∀x y:PtS,((!(ltOf cfPt) y x) ||(!(ltOf cfPt) x y))=true:=fun x y=>by
  by_cases hc:ltOf cfPt y x=true
  ·have : ltOf cfPt x y = false := by
    cases hh:ltOf cfPt x y with
    | false=>rfl
    | true=>have:=swo_pt.trans y x y hc hh;rw[swo_pt.irrefl]at this;cases this
   simp [hc,this]
  ·simp [Bool.not_eq_true _▸hc]
 have hk:(ks.map (·.1)).Pairwise (fun a b=>cmpP a b≤0):=by
  rw[List.pairwise_map,hs];refine(List.pairwise_mergeSort tr tto ss).imp fun {a b} hab=>?_
  simp only [Bool.not_eq_true']at hab;rw[nlt_pt]at hab;exact hab
 have hX:(X.map (·.1)).Pairwise (fun a b=>cmpP a b≤0):=by
  rw[List.pairwise_map];exact h.sort.imp fun {a b} hab=>by omega
 refine List.Perm.eq_of_pairwise (le:=fun a b=>cmpP a b≤0) (fun a b _ _ h1 h2=>?_) hk hX (hp.trans (h.perm.map _).symm);have h3:=cmpP_neg a b;exact(cmpP_zero a b).1 (by omega)
end Go.Proofs.YtnnjjbkdjkjnpaaGreatDoor

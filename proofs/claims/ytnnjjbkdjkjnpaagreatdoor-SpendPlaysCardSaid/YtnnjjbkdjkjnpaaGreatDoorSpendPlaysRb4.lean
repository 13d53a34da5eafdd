/- Maps whose keys are structs or arrays: what lookup,assignment and delete do to the list of their pairs. No program in sight. -/
import Derived.DeepKeys4
import Derived.MapKept
import Derived.Maps.Own
import Derived.Test.YtnnjjbkdjkjnpaaGreatDoorSpendPlaysRb3
import Derived.Deep.Slices
import Derived.Test.YtnnjjbkdjkjnpaaGreatDoorChecked
set_option linter.unusedSimpArgs false
set_option linter.unusedVariables false
set_option maxRecDepth 100000
set_option maxHeartbeats 16000000
namespace Go.Proofs.YtnnjjbkdjkjnpaaGreatDoor
open Go.WideMaps (KeyLaw)
structure MapOK (P:Program) (k:TypeId) (es:Array MapEntry) (clock:Nat):Prop where
 keyed:∀e∈es.toList,∃l,keyOf P k e.key=some l
 young:∀e∈es.toList,e.born < clock
 born:(es.toList.map (·.born)).Nodup
 keys:(es.toList.map (·.key)).Nodup
def kvs(es:Array MapEntry):List (Value×Value):=es.toList.map fun e=>(e.key,e.val)
theorem kvs_length(es:Array MapEntry):(kvs es).length=es.size:=by simp [kvs]
def withBlk(w:World)(b:Nat)(o:Obj):World:={ w with heap:=w.heap.setIfInBounds b o }
theorem withBlk_grown(w:World)(b:Nat)(o:Obj):w.grownBy (withBlk w b o) (some b):=
 ⟨rfl,rfl,rfl,by simp [withBlk],fun j _ hj=>by
  unfold withBlk
  rw[Array.getElem?_setIfInBounds_ne (fun e=>hj (by rw[e]))]⟩
theorem withBlk_heap{w:World}{b:Nat}{o o':Obj}(h:w.heap[b]? = some o'):(withBlk w b o).heap[b]? = some o:=by
 have hb:=(Array.getElem?_eq_some_iff.1 h).1;simp [withBlk,hb]
theorem withBlk_size(w:World)(b:Nat)(o:Obj):(withBlk w b o).heap.size=w.heap.size:=by simp [withBlk]
theorem withBlk_same{w:World}{b:Nat}{o:Obj}(h:w.heap[b]? = some o):withBlk w b o=w:=by
 unfold withBlk
 have:w.heap.setIfInBounds b o=w.heap:=by
  apply Array.ext_getElem?
  intro i;by_cases hi:b=i
  ·subst hi;have hb:=(Array.getElem?_eq_some_iff.1 h).1;rw[h];simp [hb]
  ·rw[Array.getElem?_setIfInBounds_ne hi]
 rw[this]
section
variable {P:Program} {w:World} {t k e:TypeId} {es:Array MapEntry} {clock b:Nat} {x:Value} {lx:Lit}
theorem MapOK.find (K : KeyLaw P k) (h : MapOK P k es clock) (hx : keyOf P k x = some lx) (w : World) :
  ((Instr.findKey k x es.toList).run P w=.ok none w∧∀p∈kvs es,p.1≠x)∨∃j en,(Instr.findKey k x es.toList).run P w=.ok (some (j,en.val)) w∧es[j]? = some en∧en.key=x:=by
 rcases K.find w hx es.toList h.keyed with ⟨h1,h2⟩|⟨j,en,h1,h2,h3⟩
 ·left
  refine⟨h1,fun p hp=>?_⟩;obtain⟨en,hen,rfl⟩:=List.mem_map.1 hp;exact h2 en hen
 ·exact .inr ⟨j,en,h1,by simpa using h2,h3⟩
theorem MapOK.find_no(K:KeyLaw P k)(h:MapOK P k es clock)(hx:keyOf P k x=some lx)(hno:∀p∈kvs es,p.1≠x)(w:World):(Instr.findKey k x es.toList).run P w=.ok none w:=by
 rcases h.find K hx w with ⟨h1,_⟩|⟨j,en,_,h2,h3⟩
 ·exact h1
 ·exfalso
  have:en∈es.toList:=by simpa using Array.mem_of_getElem? h2
  exact hno (en.key,en.val) (List.mem_map_of_mem this) h3
theorem nodup_get{α:Type}{l:List α}(h:l.Nodup){i j:Nat}{x:α}(hi:l[i]? = some x)(hj:l[j]? = some x):i=j:=by
 obtain⟨h1,h2⟩:=List.getElem?_eq_some_iff.1 hi;obtain⟨h3,h4⟩:=List.getElem?_eq_some_iff.1 hj;have hp:=List.pairwise_iff_getElem.1 h;rcases Nat.lt_trichotomy i j with hij|hij|hij
 ·exact absurd (h2.trans h4.symm) (hp i j h1 h3 hij)
 ·exact hij
 ·exact absurd (h4.trans h2.symm) (hp j i h3 h1 hij)
theorem map_erase{α β:Type}(f:α→β):∀(l:List α) (j:Nat),(l.eraseIdx j).map f=(l.map f).eraseIdx j
 |[],_=>rfl
 | _::_,0=>rfl
 | x::l,j+1=>by simp [map_erase f l j]
theorem MapOK.find_yes(K:KeyLaw P k)(h:MapOK P k es clock)(hx:keyOf P k x=some lx){j:Nat}{en:MapEntry}(hj:es[j]? = some en)(hk:en.key=x)(w:World):(Instr.findKey k x es.toList).run P w=.ok (some (j,en.val)) w:=by
 rcases h.find K hx w with ⟨_,h2⟩|⟨j',en',h1,h2,h3⟩
 ·exfalso
  have:en∈es.toList:=by simpa using Array.mem_of_getElem? hj
  exact h2 (en.key,en.val) (List.mem_map_of_mem this) hk
 ·have e1:(es.toList.map (·.key))[j]? = some x:=by rw[List.getElem?_map];simp [hj,hk]
  have e2:(es.toList.map (·.key))[j']? = some x:=by rw[List.getElem?_map];simp [h2,h3]
  have:=nodup_get h.keys e1 e2;subst this;rw[hj]at h2;cases h2
  exact h1
theorem run_lookup_no (K : KeyLaw P k) (ht : P.underlying t = some (.map k e)) (hb : w.heap[b]? = some (.map es clock)) (h : MapOK P k es clock) (hx : keyOf P k x = some lx) (hno : ∀ p ∈ kvs es, p.1 ≠ x)
  {z:Value} (hz:∀w,(zeroValue e).run P w=.ok z w):(Instr.lookup t (.map (some b)) x true).run P w=.ok (.tuple #[z,.bool false]) w:=by
 simp [Instr.lookup,run_underlying ht,MapKept.run_getObj_map hb,K.check w _ hx,h.find_no K hx hno w,hz]
theorem run_lookup_yes (K : KeyLaw P k) (ht : P.underlying t = some (.map k e)) (hb : w.heap[b]? = some (.map es clock)) (h : MapOK P k es clock) (hx : keyOf P k x = some lx) {j : Nat} {en : MapEntry} (hj : es[j]? = some en) (hk : en.key = x) :
  (Instr.lookup t (.map (some b)) x true).run P w=.ok (.tuple #[en.val,.bool true]) w:=by
 simp [Instr.lookup,run_underlying ht,MapKept.run_getObj_map hb,K.check w _ hx,h.find_yes K hx hj hk w]
theorem run_mapEntry_no (K : KeyLaw P k) (ht : P.underlying t = some (.map k e)) (hb : w.heap[b]? = some (.map es clock)) (h : MapOK P k es clock) (hx : keyOf P k x = some lx) (hno : ∀ p ∈ kvs es, p.1 ≠ x)
  {z:Value} (hz:∀w,(zeroValue e).run P w=.ok z w):(Instr.mapEntry t (.map (some b)) x).run P w=.ok (.tuple #[z,goInt clock]) (withBlk w b (.map (es.push { key:=x,val:=z,born:=clock }) (clock+1))):=by
 simp [Instr.mapEntry,run_underlying ht,MapKept.run_getObj_map hb,K.check w _ hx,h.find_no K hx hno w,hz,MapKept.run_setObj_map _ hb,withBlk,Result.andThen]
theorem run_entryStore (ht : P.underlying t = some (.map k e)) (hb : w.heap[b]? = some (.map es clock)) (h : MapOK P k es clock) {j : Nat} {en : MapEntry} (hj : es[j]? = some en) (v : Value) :
  (Instr.entryStore t (.map (some b)) (goInt en.born) v).run P w=.ok () (withBlk w b (.map (es.modify j fun e=>{ e with val:=v }) clock)):=by
 have hf:es.findIdx? (fun e=>(e.born:Int) ==(en.born:Int))=some j:=by
  rw[Array.findIdx?_eq_some_iff_getElem];obtain⟨h1,h2⟩:=Array.getElem?_eq_some_iff.1 hj;refine⟨h1,by rw[h2];simp,fun i hi hb=>?_⟩;have hb':es[i].born=en.born:=Int.ofNat_inj.1 (by simpa using hb);have e1:(es.toList.map (·.born))[i]? = some en.born:=by rw[List.getElem?_map];simp [show i < es.size by omega,hb']
  have e2:(es.toList.map (·.born))[j]? = some en.born:=by rw[List.getElem?_map];simp [hj]
  have:=nodup_get h.born e1 e2;omega
 have ha:(asInt (goInt en.born)).run P w=.ok (en.born:Int) w:=rfl;simp only [Instr.entryStore,Sem.run_bind,MapKept.run_getObj_map hb,Result.andThen_ok,Result.andThen,ha,hf,MapKept.run_setObj_map _ hb,withBlk]
theorem run_delete_yes (K : KeyLaw P k) (ht : P.underlying t = some (.map k e)) (hb : w.heap[b]? = some (.map es clock)) (h : MapOK P k es clock) (hx : keyOf P k x = some lx) {j : Nat} {en : MapEntry} (hj : es[j]? = some en) (hk : en.key = x) {ty : TypeId} :
  (Builtin.delete_ #[t,k] ty #[.map (some b),x]).run P w=.ok (.tuple #[]) (withBlk w b (.map (es.eraseIdxIfInBounds j) clock)):=by
 simp [Builtin.delete_,run_underlying ht,MapKept.run_getObj_map hb,K.check w _ hx,h.find_yes K hx hj hk w,MapKept.run_setObj_map _ hb,withBlk]
theorem run_delete_no (K : KeyLaw P k) (ht : P.underlying t = some (.map k e)) (hb : w.heap[b]? = some (.map es clock)) (h : MapOK P k es clock) (hx : keyOf P k x = some lx) (hno : ∀ p ∈ kvs es, p.1 ≠ x) {ty : TypeId} :
  (Builtin.delete_ #[t,k] ty #[.map (some b),x]).run P w=.ok (.tuple #[]) w:=by
 have e3:=withBlk_same hb;unfold withBlk at e3;simp [Builtin.delete_,run_underlying ht,MapKept.run_getObj_map hb,K.check w _ hx,h.find_no K hx hno w,MapKept.run_setObj_map _ hb,e3]
theorem MapOK.empty(P:Program)(k:TypeId)(c:Nat):MapOK P k #[] c:=⟨by simp,by simp,by simp,by simp⟩
theorem MapOK.push(h:MapOK P k es clock)(hx:keyOf P k x=some lx)(hno:∀p∈kvs es,p.1≠x)(v:Value):MapOK P k (es.push { key:=x,val:=v,born:=clock }) (clock+1):=by
 refine⟨?_,?_,?_,?_⟩
 ·intro e he;rw[Array.toList_push]at he;rcases List.mem_append.1 he with he|he
  ·exact h.keyed e he
  ·have:e={ key:=x,val:=v,born:=clock }:=by simpa using he
   subst this;exact⟨lx,hx⟩
 ·intro e he;rw[Array.toList_push]at he;rcases List.mem_append.1 he with he|he
  ·have:=h.young e he;omega
  ·have:e={ key:=x,val:=v,born:=clock }:=by simpa using he
   subst this;simp
 ·rw[Array.toList_push,List.map_append,List.nodup_append];refine⟨h.born,by simp,?_⟩;intro a ha c hc hac;obtain⟨e,he,rfl⟩:=List.mem_map.1 ha;have:=h.young e he;have hc2:c=clock:=by simpa using hc
  omega
 ·rw[Array.toList_push,List.map_append,List.nodup_append];refine⟨h.keys,by simp,?_⟩;intro a ha c hc hac;obtain⟨e,he,rfl⟩:=List.mem_map.1 ha;have hc2:c=x:=by simpa using hc
  exact hno (e.key,e.val) (List.mem_map_of_mem he) (hac.trans hc2)
theorem kvs_push(es:Array MapEntry)(en:MapEntry):kvs (es.push en)=kvs es++[(en.key,en.val)]:=by simp [kvs]
theorem MapOK.modify(h:MapOK P k es clock)(j:Nat)(v:Value):MapOK P k (es.modify j fun e=>{ e with val:=v }) clock:=by
 have hm:∀{α:Type} (g:MapEntry→α),(∀e:MapEntry,g { e with val:=v }=g e)→(es.modify j fun e=>{ e with val:=v }).toList.map g=es.toList.map g:=by
  intro α g hg
  apply List.ext_getElem?
  intro i;rw[List.getElem?_map,List.getElem?_map,Array.getElem?_toList,Array.getElem?_toList,Array.getElem?_modify];split
  ·cases es[i]? <;> simp [hg]
  ·rfl
 have hmem:∀e∈(es.modify j fun e=>{ e with val:=v }).toList,∃e'∈es.toList,e'.key=e.key∧e'.born=e.born:=by
  intro e he;have h1:(e.key,e.born)∈(es.modify j fun e=>{ e with val:=v }).toList.map (fun e=>(e.key,e.born)):=List.mem_map_of_mem he;rw[hm (fun e=>(e.key,e.born)) (fun _=>rfl)]at h1;obtain⟨e',he',hh⟩:=List.mem_map.1 h1;simp only [Prod.mk.injEq]at hh;exact⟨e',he',hh.1,hh.2⟩
 refine⟨?_,?_,?_,?_⟩
 ·intro e he;obtain⟨e',he',h1,_⟩:=hmem e he;rw[← h1];exact h.keyed e' he'
 ·intro e he;obtain⟨e',he',_,h2⟩:=hmem e he;rw[← h2];exact h.young e' he'
 ·rw[hm (·.born) (fun _=>rfl)];exact h.born
 ·rw[hm (·.key) (fun _=>rfl)];exact h.keys
theorem kvs_modify{j:Nat}{en:MapEntry}(hj:es[j]? = some en)(v:Value):kvs (es.modify j fun e=>{ e with val:=v })=(kvs es).set j (en.key,v):=by
 apply List.ext_getElem?
 intro i;unfold kvs;have hjs:=(Array.getElem?_eq_some_iff.1 hj).1;rw[List.getElem?_map,Array.getElem?_toList,Array.getElem?_modify,List.getElem?_set];split
 ·rename_i h;subst h;have h2:=(Array.getElem?_eq_some_iff.1 hj).2;simp [hjs,h2]
 ·rw[List.getElem?_map,Array.getElem?_toList]
theorem MapOK.erase(h:MapOK P k es clock)(j:Nat):MapOK P k (es.eraseIdxIfInBounds j) clock:=by
 have hl:(es.eraseIdxIfInBounds j).toList=es.toList.eraseIdx j:=by
  unfold Array.eraseIdxIfInBounds;split
  ·simp
  ·rename_i hn;rw[List.eraseIdx_of_length_le (by simpa using hn)]
 refine⟨?_,?_,?_,?_⟩
 ·intro e he;rw[hl]at he;exact h.keyed e (List.mem_of_mem_eraseIdx he)
 ·intro e he;rw[hl]at he;exact h.young e (List.mem_of_mem_eraseIdx he)
 ·rw[hl,map_erase];exact h.born.sublist (List.eraseIdx_sublist _ _)
 ·rw[hl,map_erase];exact h.keys.sublist (List.eraseIdx_sublist _ _)
theorem kvs_erase(es:Array MapEntry)(j:Nat):kvs (es.eraseIdxIfInBounds j)=(kvs es).eraseIdx j:=by
 unfold kvs
 have hl:(es.eraseIdxIfInBounds j).toList=es.toList.eraseIdx j:=by
  unfold Array.eraseIdxIfInBounds;split
  ·simp
  ·rename_i hn;rw[List.eraseIdx_of_length_le (by simpa using hn)]
 rw[hl,map_erase]
end
end Go.Proofs.YtnnjjbkdjkjnpaaGreatDoor
namespace Go.Proofs.YtnnjjbkdjkjnpaaGreatDoor
open Go.RowKit
theorem kl_point:WideMaps.KeyLaw Tryz.prog 69:=deep_law_laid laid_out (m:=3) (by omega) (of_decide_eq_true (by kernel_rfl)) (by kernel_rfl) (by kernel_rfl)
abbrev PtK:=List UInt8×Int
abbrev CoinV:=List UInt8×Int
def coinV(c:CoinV):List Value:=c.1.map B++[.int .u64 c.2]
def PtOK(p:PtK):Prop:=p.1.length=32∧(Lit.int .i64 p.2).wf=true
def CoinOK(c:CoinV):Prop:=c.1.length=32∧0≤c.2∧c.2≤18446744073709551615
def ptA(p:PtK):Value:=.agg (ptV p).toArray
def coinA(c:CoinV):Value:=.agg (coinV c).toArray
theorem keyLits_u8(d:Nat)(x:UInt8):Tryz.prog.keyLits (d+1) 5 [B x]=some [.int .u8 (b8 x)]:=by
 have h:(Lit.int .u8 (b8 x)).wf=true:=by have:=b8_range x;simp [Lit.wf,IntKind.min,IntKind.max,IntKind.signed,IntKind.bits];omega
 unfold Program.keyLits;rw[Tryz.underlying5];show(if IntKind.u8=IntKind.u8∧(Lit.int .u8 (b8 x)).wf=true then some [Lit.int .u8 (b8 x)] else none)=_
 rw[if_pos ⟨rfl,h⟩]
theorem mapM_some{α β:Type}(f:α→Option β)(g:α→β):∀(l:List α),(∀x∈l,f x=some (g x))→l.mapM f=some (l.map g)
 |[],_=>rfl
 | x::l,h=>by
  rw[List.mapM_cons,h x (by simp),mapM_some f g l (fun y hy=>h y (by simp [hy]))];rfl
theorem keyLits_id(d:Nat)(ds:List UInt8)(h:ds.length=32):∃ls,Tryz.prog.keyLits (d+2) 46 (ds.map B)=some ls:=by
 unfold Program.keyLits;rw[Tryz.underlying46];simp only [List.length_map,h,cells_id,if_true,cells_u8,Nat.mul_one]
 have:=mapM_some (fun i=>Tryz.prog.keyLits (d+1) 5 (List.take 1 (List.drop i (ds.map B)))) (fun i=>[Lit.int .u8 (b8 (ds[i]?.getD 0))]) (List.range 32) (fun i hi=>by
  have hi:i < 32:=by simpa using hi
  have e:List.take 1 (List.drop i (ds.map B))=[B (ds[i]?.getD 0)]:=by
   rw[List.take_one,List.head?_drop,List.getElem?_map,List.getElem?_eq_getElem (by omega)];rfl
  rw[e,keyLits_u8])
 exact⟨_,by rw[this];rfl⟩
theorem keyOf_pt(p:PtK)(h:PtOK p):∃l,keyOf Tryz.prog 69 (ptA p)=some l:=by
 obtain⟨h1,h2⟩:=h;unfold keyOf;rw[Tryz.underlying69];have hk:Tryz.prog.keyType 69=true:=by kernel_rfl
 have hf:(ptA p).formed Tryz.prog 69=true:=by
  unfold ptA Value.formed;simp only [Tryz.underlying69,cells_point,List.size_toArray,ptV_length h1]
  rfl
 obtain⟨n,hn⟩:∃n,Tryz.prog.types.size=n+3:=⟨Tryz.prog.types.size - 3,by kernel_rfl⟩;obtain⟨ls,hls⟩:=keyLits_id (n+1) p.1 h1;have hc:(ptA p).cells.toList=ptV p:=by simp [ptA,Value.cells]
 have hkl:∃l,Tryz.prog.keyLits (Tryz.prog.types.size+1) 69 (ptV p)=some l:=by
  rw[hn];unfold Program.keyLits;rw[Tryz.underlying69];have e1:List.take 32 (ptV p)=p.1.map B:=by unfold ptV;rw[List.take_append_of_le_length (by simp [h1]),List.take_of_length_le (by simp [h1])]
  have e2:List.take 1 (List.drop 32 (ptV p))=[.int .i64 p.2]:=by unfold ptV;rw[List.drop_append_of_le_length (by simp [h1]),List.drop_of_length_le (by simp [h1])];rfl
  have e3:Tryz.prog.keyLits (n+3) 3 [.int .i64 p.2]=some [.int .i64 p.2]:=by
   unfold Program.keyLits;rw[Tryz.underlying3];show(if IntKind.i64=IntKind.i64∧(Lit.int .i64 p.2).wf=true then some [Lit.int .i64 p.2] else none)=_
   rw[if_pos ⟨rfl,h2⟩]
  simp only [cells_point,ptV_length h1];rw[if_pos ⟨trivial,by kernel_rfl⟩];simp only [List.mapM_cons,List.mapM_nil,List.drop_zero,cells_id,cells_int,e1,e2,e3,hls];exact⟨_,rfl⟩
 obtain⟨l,hl⟩:=hkl;simp only [hk,hf,Bool.and_self,if_true,hc,hl,Option.map_some];exact⟨_,rfl⟩
theorem map_B_inj:∀{a b:List UInt8},a.map B=b.map B→a=b
 |[],[],_=>rfl
 | x::a,y::b,h=>by
  simp only [List.map_cons,List.cons.injEq]at h;have h1:x=y:=b8_inj (by have:=h.1;unfold B at this;simpa using this);rw[h1,map_B_inj h.2]
 |[],_::_,h=>by simp at h
 | _::_,[],h=>by simp at h
theorem ptA_inj{p q:PtK}(hp:p.1.length=32)(hq:q.1.length=32)(h:ptA p=ptA q):p=q:=by
 unfold ptA at h;have h2:ptV p=ptV q:=by simpa using h
 unfold ptV at h2;have h3:=List.append_inj h2 (by simp [hp,hq]);have e1:=map_B_inj h3.1;have e2:p.2=q.2:=by simpa using h3.2
 exact Prod.ext e1 e2
abbrev CoinsL:=List (PtK×CoinV)
def encC(L:CoinsL):List (Value×Value):=L.map fun e=>(ptA e.1,coinA e.2)
def LOK(L:CoinsL):Prop:=(∀e∈L,PtOK e.1∧CoinOK e.2)∧(L.map (·.1)).Nodup
def lookC(L:CoinsL)(p:PtK):Option CoinV:=(L.find? (fun e=>e.1 == p)).map (·.2)
def noCoin:CoinV:=(List.replicate 32 0,0)
structure CoinsAt (w:World) (g b:Nat) (L:CoinsL) (s:Int):Prop where
 blk:Blk w g 90 [.map (some b),.int .u64 s]
 map:∃es clock,w.heap[b]? = some (.map es clock)∧MapOK Tryz.prog 69 es clock∧kvs es=encC L
 ok:LOK L
 ne:g≠b
theorem CoinsAt.below{w w':World}{g b B:Nat}{L:CoinsL}{s:Int}(h:CoinsAt w g b L s)(hb:Below B w w')(h1:g < B)(h2:b < B):CoinsAt w' g b L s:=by
 obtain⟨hb1,⟨es,clock,h3,h4,h5⟩,h6,h7⟩:=h;exact⟨hb1.below hb h1,⟨es,clock,(hb.block b h2).trans h3,h4,h5⟩,h6,h7⟩
theorem CoinsAt.ltg{w:World}{g b:Nat}{L:CoinsL}{s:Int}(h:CoinsAt w g b L s):g < w.heap.size:=h.blk.lt
theorem CoinsAt.ltb{w:World}{g b:Nat}{L:CoinsL}{s:Int}(h:CoinsAt w g b L s):b < w.heap.size:=by
 obtain⟨es,clock,h3,_⟩:=h.map;exact(Array.getElem?_eq_some_iff.1 h3).1
theorem CoinsAt.call{w w':World}{g b:Nat}{L:CoinsL}{s:Int}(h:CoinsAt w g b L s)(hb:Below w.heap.size w w'):CoinsAt w' g b L s:=h.below hb h.ltg h.ltb
theorem zero_coin:(Tryz.prog.info? 77).map (·.zero)=some (some (.agg (coinV noCoin).toArray)):=by kernel_rfl
theorem row_coin:RowT Tryz.prog 77 33:=⟨_,Tryz.underlying77,by kernel_rfl,by kernel_rfl⟩
theorem zeroV_coin(w:World):(zeroValue 77).run Tryz.prog w=.ok (coinA noCoin) w:=by
 obtain⟨i,hi,hz⟩:=Option.map_eq_some_iff.1 zero_coin;simp [zeroValue,typeInfo,hi,hz,coinA]
theorem coinV_length{c:CoinV}(h:CoinOK c):(coinV c).length=33:=by simp [coinV,h.1]
theorem coinV_one(c:CoinV):∀u∈coinV c,u.oneCell'=true:=by
 intro u hu;rcases List.mem_append.1 hu with h|h
 ·obtain⟨x,_,rfl⟩:=List.mem_map.1 h;rfl
 ·have:u=.int .u64 c.2:=by simpa using h
  subst this;rfl
theorem noCoin_ok:CoinOK noCoin:=⟨by simp [noCoin],by simp [noCoin],by simp [noCoin]⟩
theorem CoinsAt.look {w : World} {g b : Nat} {L : CoinsL} {s : Int} (h : CoinsAt w g b L s) {p : PtK} (hp : PtOK p) :
  ∃c:CoinV,CoinOK c∧c=(lookC L p).getD noCoin∧(Instr.lookup 88 (.map (some b)) (ptA p) true).run Tryz.prog w=.ok (.tuple #[coinA c,.bool (lookC L p).isSome]) w:=by
 obtain⟨hb1,⟨es,clock,h3,h4,h5⟩,⟨h6,h6'⟩,h7⟩:=h;obtain⟨lx,hx⟩:=keyOf_pt p hp;unfold lookC;cases hf:L.find? (fun e=>e.1 == p) with
 | none =>
  refine⟨noCoin,noCoin_ok,rfl,?_⟩;refine run_lookup_no kl_point Tryz.underlying88 h3 h4 hx ?_ zeroV_coin;intro q hq e;rw[h5]at hq;obtain⟨en,hen,rfl⟩:=List.mem_map.1 hq;have:=List.find?_eq_none.1 hf en hen;exact this (by simpa using ptA_inj (h6 en hen).1.1 hp.1 e)
 | some en =>
  have hmem:=List.mem_of_find?_eq_some hf;have hkey:en.1=p:=by simpa using List.find?_some hf
  refine⟨en.2,(h6 en hmem).2,rfl,?_⟩;obtain⟨j,hj,hje⟩:=List.getElem_of_mem hmem;have e1:(kvs es)[j]? = some (ptA en.1,coinA en.2):=by rw[h5];unfold encC;rw[List.getElem?_map,List.getElem?_eq_getElem hj,hje];rfl
  unfold kvs at e1;rw[List.getElem?_map]at e1;obtain⟨me,hme,hmm⟩:=Option.map_eq_some_iff.1 e1;simp only [Prod.mk.injEq]at hmm;have:=run_lookup_yes kl_point Tryz.underlying88 h3 h4 hx (j:=j) (en:=me) (by simpa using hme) (by rw[hmm.1,hkey]);rw[hmm.2]at this;exact this
theorem get_any (g b : Nat) (L : CoinsL) (s : Int) (p : PtK) (w : World) (h : CoinsAt w g b L s) (hp : PtOK p) :
  Calls Tryz.prog 77 #[.pointer (some ⟨g,0,none⟩),ptA p] w fun e w'=>e=.returned (.tuple #[coinA ((lookC L p).getD noCoin),.bool (lookC L p).isSome])∧Below w.heap.size w w':=by
 obtain⟨c,hc,hce,-⟩:=h.look hp;rw[← hce];obtain⟨ok,hok⟩:=xe ((lookC L p).isSome);rw[← hok]
 have hlk:∀w',CoinsAt w' g b L s→(Instr.lookup 88 (.map (some b)) (ptA p) true).run Tryz.prog w'=.ok (.tuple #[coinA c,.bool ok]) w':=by
  intro w' h';obtain⟨c',_,e,h2⟩:=h'.look hp;rw[hce,← e,hok];exact h2
 have HLK:=kp hlk;have HC:=kp h;have HX:=kp (ptV_length hp.1);have HCL:=kp (coinV_length hc);have HC1:=kp (coinV_one c);clear hok hce hc hp hlk;obtain⟨xs,hxs⟩:=xe (ptV p);obtain⟨cs,hcs⟩:=xe (coinV c);rw[coinA,← hcs];rw[coinA,← hcs]at HLK;rw[← hcs]at HCL HC1;rw[ptA,← hxs];rw[ptA,← hxs]at HLK;rw[← hxs]at HX;clear hxs hcs;obtain⟨z,hz⟩:=xe w.heap.size;have hg:g < z:=by rw[hz];exact h.ltg
 have hb:b < z:=by rw[hz];exact h.ltb
 have HZ:=kp hz;rw[← hz];clear h hz
 go_enter Tryz.func77,Tryz.ntmps77
 go_wp2_with (with_reducible first|refine wpl_box (o:=⟨some 3,_,_,_,_,_⟩) rfl rfl rfl ?_);intro w1 hb1 hbw1 hsz1;rw[← HZ.o]at hb1 hbw1 hsz1 ⊢;go_wp2_with (with_reducible first|refine wpl_alloc (o:=⟨some 4,_,_,_,_,_⟩) rfl rfl zero_coin ?_);intro w2 hb2 hbw2 hsz2;have HB1:=kp (hb1.below hbw2 (by omega));have HB2:=kp hb2;have HBW:=kp (hbw1.trans (hbw2.mono (by omega)));have HSZ:=kp hsz2;have HC2:=kp (HC.o.below HBW.o hg hb);clear hb1 hb2 hbw1 hbw2 hsz1 hsz2 HC;repeat' (first|(with_reducible refine wp_phase (id:=1) (newC w2 77 (coinV noCoin) cs) [9,10] [(0,2),(0,2),(0,2),(0,2),(0,2),(0,2),(0,2),(0,2),(0,2),(0,0),(1,1),(0,2)] (by kernel_rfl) (by kernel_rfl) ?_ ?_)|go_values|go_skip|go_guarded|go_step|go_upon|go_back)
 ·exact newC.start
 have HF:=kq (∀k w',newC w2 77 (coinV noCoin) cs k w'→w'.cell? ⟨g,0,none⟩=some (.map (some b))) (fun k w' h=>(HC2.o.call (newC.low k w' h)).blk.at_ rfl);have HL:=kq (∀k w',newC w2 77 (coinV noCoin) cs k w'→(Instr.lookup 88 (.map (some b)) (.agg xs.toArray) true).run Tryz.prog w'=.ok (.tuple #[.agg cs.toArray,.bool ok]) w') (fun k w' h=>HLK.o w' (HC2.o.call (newC.low k w' h)));have HX1:=kq (∀k w',newC w2 77 (coinV noCoin) cs k w'→Blk w' z 69 xs) (fun k w' h=>HB1.o.call (newC.low k w' h));refine ph_value rfl (by first|rfl|go_simp) (fun k_ _ _ w_ hC_=>by first|(go_simp;rfl)|(go_simp;done)|rfl) (fun K hK=>?_);go_simp;refine hK _ ?_;clear hK K;refine ph_value rfl (by first|rfl|go_simp) (fun k_ _ _ w_ hC_=>by first|(go_simp;rfl)|(go_simp;done)|rfl) (fun K hK=>?_);go_simp;refine hK _ ?_;clear hK K;refine ph_value rfl (by first|rfl|go_simp) (fun k_ _ _ w_ hC_=>by first|(go_simp;rfl)|(go_simp;done)|rfl) (fun K hK=>?_);go_simp;refine hK _ ?_;clear hK K;refine ph_value rfl (by first|rfl|go_simp) (fun k_ _ _ w_ hC_=>by have c1:=HF.o _ _ hC_;first|(go_simp;rfl)|(go_simp;done)|rfl) (fun K hK=>?_);go_simp;refine hK _ ?_;clear hK K;refine ph_load rfl rfl rfl row_point (fun k _ _ w h=>HX1.o k w h) rfl HX.o ?_
 (intro K hK;go_simp;refine hK _ ?_;clear hK K)
 refine ph_value rfl (by first|rfl|go_simp) (fun k_ _ _ w_ hC_=>by have c1:=HL.o _ _ hC_;first|(go_simp;rfl)|(go_simp;done)|rfl) (fun K hK=>?_);go_simp;refine hK _ ?_;clear hK K;refine ph_value rfl (by first|rfl|go_simp) (fun k_ _ _ w_ hC_=>by first|(go_simp;rfl)|(go_simp;done)|rfl) (fun K hK=>?_);go_simp;refine hK _ ?_;clear hK K;refine ph_value rfl (by first|rfl|go_simp) (fun k_ _ _ w_ hC_=>by first|(go_simp;rfl)|(go_simp;done)|rfl) (fun K hK=>?_);go_simp;refine hK _ ?_;clear hK K;refine ph_value rfl (by first|rfl|go_simp) (fun k_ _ _ w_ hC_=>by first|(go_simp;rfl)|(go_simp;done)|rfl) (fun K hK=>?_);go_simp;refine hK _ ?_;clear hK K;refine ph_alloc 0 rfl rfl rfl rfl rfl zero_coin newC.lay ?_
 (intro K hK;go_simp;refine hK _ ?_;clear hK K)
 refine ph_store 1 rfl rfl rfl rfl rfl row_coin rfl rfl HCL.o HC1.o (newC.put (coinV_length noCoin_ok)) ?_
 (intro K hK;go_simp;refine hK _ ?_;clear hK K)
 refine ph_value rfl (by first|rfl|go_simp) (fun k_ _ _ w_ hC_=>by first|(go_simp;rfl)|(go_simp;done)|rfl) (fun K hK=>?_);go_simp;refine hK _ ?_;clear hK K;refine ph_nil ?_;intro w3 ⟨hl3,hs3,hx3⟩;have H3X:=kp hx3;have H3R:=kp (HB2.o.call hl3);have HL3:=kp (HBW.o.trans (hl3.mono (by rw[HSZ.o];omega)));have HS3:=kq (z+3=w3.heap.size) (by rw[hs3,HSZ.o]);rw[HSZ.o]at H3X ⊢;clear hl3 hs3 hx3 HF HL HX1 HC2 HB1 HB2 HBW HLK;go_wp2_with (with_reducible first|refine wlb 17 row_coin H3X.o HCL.o ?_|refine wpl_storeb (o:=⟨none,.store _ _ _,_,_,_,_⟩) rfl rfl row_coin H3R.o rfl rfl (coinV_length noCoin_ok) HCL.o HC1.o ?_);intro w4 hb4 hg4 hs4;have H4R:=kp hb4;have HL4:=kp (HL3.o.grown hg4 (by have:=HS3.o;omega) (fun k hk=>by cases hk;omega));clear hb4 hg4 hs4;go_wp2_with fail;refine ret_cell_tmp rfl row_coin H4R.o rfl HCL.o rfl rfl ?_;exact⟨rfl,HL4.o⟩
theorem new_any(w:World):Calls Tryz.prog 14 #[] w fun e w'=>∃g b,e=.returned (.pointer (some ⟨g,0,none⟩))∧CoinsAt w' g b [] 0∧w.heap.size≤g∧w.heap.size≤b∧Below w.heap.size w w':=by
 have hmm:∀w,(Instr.makeMap 88 none).run Tryz.prog w=.ok (.map (some w.heap.size)) (w.alloc (.map #[] 0)):=fun w=>rfl
 go_enter Tryz.func14,Tryz.ntmps14
 go_wp2
 go_ret
 refine⟨w.heap.size+1,w.heap.size,rfl,⟨?_,⟨#[],0,?_,MapOK.empty _ _ _,rfl⟩,⟨by simp,by simp⟩,by omega⟩,by omega,by omega,((Below.refl _ _).alloc (Nat.le_refl _) _).alloc (by simp) _⟩
 ·have:=heap_alloc_new (w.alloc (.map #[] 0)) (.cells #[.map (some w.heap.size),.int .u64 0] 90);simpa [Blk] using this
 ·have h1:=heap_alloc_new w (.map #[] 0);have h2:=Below.heap_alloc (w.alloc (.map #[] 0)) (.cells #[.map (some w.heap.size),.int .u64 0] 90) w.heap.size (by simp);exact h2.trans h1
theorem clen_any (g b : Nat) (L : CoinsL) (s : Int) (w : World) (h : CoinsAt w g b L s) :
  Calls Tryz.prog 35 #[.pointer (some ⟨g,0,none⟩)] w fun e w'=>e=.returned (.int .i64 L.length)∧w=w':=by
 obtain⟨hb1,⟨es,clock,h3,h4,h5⟩,h6,h7⟩:=h;have c1:w.cell? ⟨g,0,none⟩=some (.map (some b)):=hb1.at_ rfl;have e:es.size=L.length:=by rw[← kvs_length,h5];simp [encC]
 have hl:=fun ty=>run_len_map w 88 ty b es clock Tryz.underlying88 h3
 simp only [e]at hl;clear hb1 h3 h4 h5 h6 h7 e
 go_enter Tryz.func35,Tryz.ntmps35
 go_wp2
 go_ret
 exact⟨rfl,rfl⟩
open Go.RowKit Go.ChangeShapes Go.WideShapes Go.Deep
section
variable {H:Type} {enc:TypeId×Value→H} {P:Program} {w:World} {r:Reach} {b0 base:Nat} {spare:Nat→Bool} {held:Bool}
theorem flat_len{α:Type}{f:α→List Value}{sz:Nat}:∀{l:List α},(∀x∈l,(f x).length=sz)→(l.flatMap f).length=l.length*sz
 |[],_=>by simp
 | x::l,h=>by
  rw[List.flatMap_cons,List.length_append,h x (by simp),flat_len (l:=l) (fun y hy=>h y (by simp [hy])),List.length_cons,Nat.succ_mul,Nat.add_comm]
theorem flat_at{α:Type}{f:α→List Value}{sz:Nat}:∀{l:List α},(∀x∈l,(f x).length=sz)→0 < sz→∀{j:Nat} {u:Value},(l.flatMap f)[j]? = some u→∃x,l[j / sz]? = some x∧(f x)[j % sz]? = some u
 |[],_,_,j,u,hu=>by simp at hu
 | x::l,h,h0,j,u,hu=>by
  rw[List.flatMap_cons]at hu;have hx:=h x (by simp);by_cases hj:j < sz
  ·rw[List.getElem?_append_left (by omega)]at hu;refine⟨x,by rw[Nat.div_eq_of_lt hj];rfl,by rw[Nat.mod_eq_of_lt hj];exact hu⟩
  ·rw[List.getElem?_append_right (by omega),hx]at hu;obtain⟨y,h1,h2⟩:=flat_at (l:=l) (fun y hy=>h y (by simp [hy])) h0 hu;have e1:j / sz=(j - sz) / sz+1:=by rw[← Nat.div_eq_sub_div h0 (by omega)]
   have e2:j % sz=(j - sz) % sz:=by rw[Nat.mod_eq_sub_mod (by omega)]
   exact⟨y,by rw[e1,List.getElem?_cons_succ];exact h1,by rw[e2];exact h2⟩
theorem open_list0 {α : Type} [Inhabited α] (f : α → List Value) (ok : α → Prop) {t e : TypeId} {fuel : Nat} {cs : List Value} {y : DataW H × List MemPlace} {sz : Nat} (ht : P.underlying t = some (.slice e)) (hce : P.cellsOf e = sz) (hsz : 0 < sz)
  (helem:∀fuel cs y,cs.length=sz→DataW.trod enc P w base spare held fuel e cs=some y→∃x,cs=f x∧ok x)
  (hf:DataW.trod enc P w base spare held fuel t cs=some y) :
  ∃A n c,∃l:List α,cs=[.slice A n c]∧l.length=n∧n≤c∧c≤maxLen∧Sl w w.heap.size sz A n (l.flatMap f)∧(∀x∈l,ok x)∧(∀x∈l,(f x).length=sz):=by
 rcases open_slice ht hf with ⟨hcs,_⟩|⟨a,n,c,m,k,D,Pl,hcs,_,hl,hm,hmm,_,hx⟩
 ·subst hcs;exact⟨none,0,0,[],rfl,rfl,Nat.le_refl _,Nat.zero_le _,⟨by simp,fun h=>absurd h (by omega)⟩,by simp,by simp⟩
 ·subst hcs;have hle:n≤m:=by rw[hmm];split <;> omega
  rw[hce]at hx
  obtain⟨X,hX⟩:=choose_lt (n:=n) (p:=fun i (x:α)=>w.cells? base (a.add (i*sz)) sz=some (f x)∧(f x).length=sz∧ok x) (fun i hi=>by
   obtain⟨cs',h1,h2⟩:=hx i (by omega);obtain⟨_,hlen,_⟩:=World.cells?_some h1;obtain⟨x,e,hok⟩:=helem _ _ _ hlen h2
   exact⟨x,by rw[← e];exact h1,by rw[← e];exact hlen,hok⟩)
  have hlen:∀x∈(List.range n).map X,(f x).length=sz:=by
   intro x hx;obtain⟨i,hi,rfl⟩:=List.mem_map.1 hx;exact(hX i (by simpa using hi)).2.1
  refine⟨some a,n,c,(List.range n).map X,rfl,by simp,hl,hm,⟨by rw[flat_len hlen];simp,fun hn=>?_⟩,?_,hlen⟩
  ·obtain⟨b,off,spot⟩:=a;obtain⟨_,_,h0⟩:=World.cells?_some (hX 0 hn).1;have h00:=h0 0 hsz;have hc0:∃u,w.cell? ((Addr.add ⟨b,off,spot⟩ (0*sz)).add 0)=some u:=⟨_,by rw[h00,List.getElem?_eq_getElem (by rw[(hX 0 hn).2.1];exact hsz)]⟩;obtain⟨u0,hu0⟩:=hc0;have hspot:spot=none:=by simpa [Addr.add] using World.cell?_spot hu0
   subst hspot;refine⟨b,off,rfl,by have:=World.block_lt_of_cell? w _ hu0;simpa [Addr.add] using this,fun j u hu=>?_⟩;obtain⟨x,h1,h2⟩:=flat_at hlen hsz hu;rw[List.getElem?_map]at h1;obtain⟨i,h3,rfl⟩:=Option.map_eq_some_iff.1 h1
   have hi:j / sz=i∧i < n:=by
    rcases Nat.lt_or_ge (j / sz) n with hl|hl
    ·rw[List.getElem?_range hl]at h3;cases h3;exact⟨rfl,hl⟩
    ·rw[List.getElem?_eq_none (by simpa using hl)]at h3;cases h3
   obtain⟨_,_,hc⟩:=World.cells?_some (hX i hi.2).1;have:=hc (j % sz) (Nat.mod_lt _ hsz);rw[h2,Addr.add_lit,Addr.add_lit]at this;rw[← this,← hi.1];have:=Nat.div_add_mod j sz;have e:off+j=off+j / sz*sz+j % sz:=by rw[Nat.mul_comm]at this;omega
   rw[e]
  ·intro x hx;obtain⟨i,hi,rfl⟩:=List.mem_map.1 hx;exact(hX i (by simpa using hi)).2.2
theorem open_list {α : Type} [Inhabited α] (f : α → List Value) (ok : α → Prop) {t e : TypeId} {v : Value} {d : DataW H} {ps : List MemPlace} {sz : Nat} (ht : P.underlying t = some (.slice e)) (hce : P.cellsOf e = sz) (hsz : 0 < sz)
  (helem:∀fuel cs y,cs.length=sz→DataW.trod enc P w base spare held fuel e cs=some y→∃x,cs=f x∧ok x)
  (hval:Value.okWide P w r b0 t v) (h:DataW.Trod enc P w base spare held t v d ps) :
  ∃A n c,∃l:List α,v=.slice A n c∧l.length=n∧n≤c∧c≤maxLen∧Sl w w.heap.size sz A n (l.flatMap f)∧(∀x∈l,ok x)∧(∀x∈l,(f x).length=sz):=by
 obtain⟨A,n,c,rfl⟩:=okWide_slice ht hval;obtain⟨fuel,hf⟩:=h;obtain⟨A',n',c',l,h1,hr⟩:=open_list0 f ok ht hce hsz helem hf;have h1:A=A'∧n=n'∧c=c':=by simpa [Value.cells] using h1
 obtain⟨rfl,rfl,rfl⟩:=h1;exact⟨A,n,c,l,rfl,hr⟩
theorem flat_one{α:Type}(g:α→Value)(l:List α):l.flatMap (fun x=>[g x])=l.map g:=by
 induction l with
 | nil=>rfl
 | cons x l ih=>simp [ih]
theorem trod_u8{e:TypeId}(he:P.underlying e=some (.int .u8)){fuel:Nat}{cs:List Value}{y:DataW H×List MemPlace}(h:DataW.trod enc P w base spare held fuel e cs=some y):∃x:UInt8,cs=[B x]∧True:=by
 obtain⟨z,h1,_,h2⟩:=DataW.trod_int he h;have hz:=bounds_u8 h2;refine⟨UInt8.ofNat z.toNat,?_,trivial⟩;rw[h1];simp only [B,b8]
 congr 2
 rw[UInt8.toNat_ofNat'];omega
theorem open_u8s0 {t e : TypeId} {fuel : Nat} {cs : List Value} {y : DataW H × List MemPlace} (ht : P.underlying t = some (.slice e)) (he : P.underlying e = some (.int .u8)) (hce : P.cellsOf e = 1) (h : DataW.trod enc P w base spare held fuel t cs = some y) :
  ∃A n c,∃bs:List UInt8,cs=[.slice A n c]∧Sl w w.heap.size 1 A n (bs.map B)∧n≤c∧c≤maxLen∧bs.length=n:=by
 obtain⟨A,n,c,l,h1,h2,h3,h4,h5,_⟩:=open_list0 (fun x:UInt8=>[B x]) (fun _=>True) ht hce (by omega) (fun fuel cs y _ h=>trod_u8 he h) h;exact⟨A,n,c,l,h1,by rw[← flat_one];exact h5,h3,h4,h2⟩
end
end Go.Proofs.YtnnjjbkdjkjnpaaGreatDoor
namespace Go.Proofs.YtnnjjbkdjkjnpaaGreatDoor
open Go.RowKit Go.ChangeShapes Go.WideShapes
theorem gotA{α:Type}{o:Option α}{xs:List α}{i:Nat}(h:o=xs[i]?)(hi:i < xs.length):∃y,o=some y:=⟨_,h.trans (List.getElem?_eq_getElem hi)⟩
theorem cutA{xs:List Value}{o n:Nat}{l rest:List Value}(h:(xs.drop o).take n=l)(hr:xs.drop (o+n)=rest):xs.drop o=l++rest:=by
 rw[← List.take_append_drop n (xs.drop o),h,List.drop_drop,hr]
theorem fm_atA{α:Type}(f:α→List Value)(sz:Nat):∀(l:List α) (k j:Nat) (x:α) (u:Value),(∀y∈l,(f y).length=sz)→l[k]? = some x→(f x)[j]? = some u→(l.flatMap f)[k*sz+j]? = some u
 |[],k,j,x,u,_,hk,_=>by simp at hk
 | y::l,0,j,x,u,hl,hk,hu=>by
  simp at hk;subst hk;rw[List.flatMap_cons,Nat.zero_mul,Nat.zero_add,List.getElem?_append_left (List.getElem?_eq_some_iff.1 hu).1];exact hu
 | y::l,k+1,j,x,u,hl,hk,hu=>by
  have h1:=hl y (List.mem_cons_self ..);rw[List.flatMap_cons,List.getElem?_append_right (by rw[h1,Nat.add_mul];omega),h1,show(k+1)*sz+j - sz=k*sz+j by rw[Nat.add_mul];omega];exact fm_atA f sz l k j x u (fun z hz=>hl z (List.mem_cons_of_mem _ hz)) (by simpa using hk) hu
section
variable {H:Type} {enc:TypeId×Value→H} {w:World} {r:Reach} {b0 base:Nat} {spare:Nat→Bool} {held:Bool}
theorem trod_ptk{fuel:Nat}{cs:List Value}{y:DataW H×List MemPlace}(hl0:cs.length=33)(hf:DataW.trod enc Tryz.prog w base spare held fuel 69 cs=some y):∃p:PtK,cs=ptV p∧PtOK p:=by
 obtain⟨xs,n,_,_,hl,hxs,hg⟩:=DataW.trod_struct Tryz.underlying69 hf;replace hg:=fun i f h=>hg i f h
 have hxs5:xs.length=2:=hxs;obtain⟨y0,h0⟩:=gotA (hg 0 _ rfl) (by omega);obtain⟨y1,h1⟩:=gotA (hg 1 _ rfl) (by omega);replace h0:DataW.trod enc Tryz.prog w base spare held n 46 ((cs.drop 0).take (Tryz.prog.cellsOf 46))=some y0:=h0;replace h1:DataW.trod enc Tryz.prog w base spare held n 3 ((cs.drop 32).take (Tryz.prog.cellsOf 3))=some y1:=h1;rw[cells_id]at h0;rw[cells_int]at h1;obtain⟨d0,e0,l0⟩:=trod_bytes Tryz.underlying46 Tryz.underlying5 cells_u8 cells_id h0;obtain⟨z1,e1,_,w1⟩:=DataW.trod_int Tryz.underlying3 h1;refine⟨(d0,z1),?_,l0,w1⟩;have a2:cs.drop 33=[]:=List.drop_of_length_le (by omega);have a1:=cutA e1 a2;have a0:=cutA e0 a1;rw[List.drop_zero]at a0;rw[a0];simp [ptV]
theorem trod_coinv{fuel:Nat}{cs:List Value}{y:DataW H×List MemPlace}(hl0:cs.length=33)(hf:DataW.trod enc Tryz.prog w base spare held fuel 77 cs=some y):∃c:CoinV,cs=coinV c∧CoinOK c:=by
 obtain⟨xs,n,_,_,hl,hxs,hg⟩:=DataW.trod_struct Tryz.underlying77 hf;replace hg:=fun i f h=>hg i f h
 have hxs5:xs.length=2:=hxs;obtain⟨y0,h0⟩:=gotA (hg 0 _ rfl) (by omega);obtain⟨y1,h1⟩:=gotA (hg 1 _ rfl) (by omega);replace h0:DataW.trod enc Tryz.prog w base spare held n 46 ((cs.drop 0).take (Tryz.prog.cellsOf 46))=some y0:=h0;replace h1:DataW.trod enc Tryz.prog w base spare held n 25 ((cs.drop 32).take (Tryz.prog.cellsOf 25))=some y1:=h1;rw[cells_id]at h0;rw[cells_u64]at h1;obtain⟨d0,e0,l0⟩:=trod_bytes Tryz.underlying46 Tryz.underlying5 cells_u8 cells_id h0;obtain⟨z1,e1,_,w1⟩:=DataW.trod_int Tryz.underlying25 h1;refine⟨(d0,z1),?_,l0,by simpa [Lit.wf,IntKind.min,IntKind.max,IntKind.signed,IntKind.bits] using w1⟩;have a2:cs.drop 33=[]:=List.drop_of_length_le (by omega);have a1:=cutA e1 a2;have a0:=cutA e0 a1;rw[List.drop_zero]at a0;rw[a0];simp [coinV]
end
end Go.Proofs.YtnnjjbkdjkjnpaaGreatDoor
namespace Go.Proofs.YtnnjjbkdjkjnpaaGreatDoor
open Go.RowKit Go.ChangeShapes Go.WideShapes
abbrev HeldV:=PtK×List UInt8×CoinV
def heldV(a:HeldV):List Value:=ptV a.1++(a.2.1.map B++coinV a.2.2)
def HeldOK(a:HeldV):Prop:=PtOK a.1∧a.2.1.length=32∧CoinOK a.2.2
theorem heldV_len{a:HeldV}(h:HeldOK a):(heldV a).length=98:=by unfold heldV;rw[List.length_append,List.length_append,ptV_length h.1.1,List.length_map,h.2.1,coinV_length h.2.2]
theorem cells_held:Tryz.prog.cellsOf 85=98:=by kernel_rfl
theorem cells_coinh:Tryz.prog.cellsOf 77=33:=by kernel_rfl
def HeldsAt(w:World)(A:Option Addr)(n:Nat)(l:List HeldV):Prop:=l.length=n∧Sl w w.heap.size 98 A n (l.flatMap heldV)∧∀a∈l,HeldOK a
theorem HeldsAt.grow{w w':World}{A:Option Addr}{n:Nat}{l:List HeldV}(h:HeldsAt w A n l)(k:Below w.heap.size w w'):HeldsAt w' A n l:=⟨h.1,(h.2.1.below k).more k.size,h.2.2⟩
theorem HeldsAt.at_{w:World}{A:Option Addr}{n:Nat}{l:List HeldV}(h:HeldsAt w A n l){k:Nat}(hk:k < n):∃b off a,A=some ⟨b,off,none⟩∧b < w.heap.size∧l[k]? = some a∧(∀j u,(heldV a)[j]? = some u→w.cell? ⟨b,off+k*98+j,none⟩=some u)∧HeldOK a:=by
 obtain⟨b,off,e,hb,hc⟩:=h.2.1.2 (by omega);have hl:k < l.length:=by have:=h.1;omega
 refine⟨b,off,l[k],e,hb,List.getElem?_eq_getElem hl,fun j u hu=>?_,h.2.2 _ (List.getElem_mem hl)⟩;rw[Nat.add_assoc];exact hc _ u (fm_atA heldV 98 l k j _ u (fun y hy=>heldV_len (h.2.2 y hy)) (List.getElem?_eq_getElem hl) hu)
theorem heldV_pt{a:HeldV}{j:Nat}{u:Value}(hu:(ptV a.1)[j]? = some u):(heldV a)[j]? = some u:=by
 unfold heldV;rw[List.getElem?_append_left (List.getElem?_eq_some_iff.1 hu).1];exact hu
theorem heldV_id{a:HeldV}(h:HeldOK a){j:Nat}{u:Value}(hu:(a.2.1.map B)[j]? = some u):(heldV a)[33+j]? = some u:=by
 have hl:=ptV_length h.1.1;unfold heldV;rw[List.getElem?_append_right (by omega),hl,show 33+j - 33=j by omega,List.getElem?_append_left (List.getElem?_eq_some_iff.1 hu).1];exact hu
theorem heldV_coin{a:HeldV}(h:HeldOK a){j:Nat}{u:Value}(hu:(coinV a.2.2)[j]? = some u):(heldV a)[65+j]? = some u:=by
 have hl:=ptV_length h.1.1;have h3:(a.2.1.map B).length=32:=by rw[List.length_map,h.2.1]
 unfold heldV;rw[List.getElem?_append_right (by omega),hl,List.getElem?_append_right (by omega),h3,show 65+j - 33 - 32=j by omega];exact hu
section
variable {H:Type} {enc:TypeId×Value→H} {w:World} {r:Reach} {b0 base:Nat} {spare:Nat→Bool} {held:Bool}
theorem trod_held{fuel:Nat}{cs:List Value}{y:DataW H×List MemPlace}(hl0:cs.length=98)(hf:DataW.trod enc Tryz.prog w base spare held fuel 85 cs=some y):∃a:HeldV,cs=heldV a∧HeldOK a:=by
 obtain⟨xs,n,_,_,hl,hxs,hg⟩:=DataW.trod_struct Tryz.underlying85 hf;replace hg:=fun i f h=>hg i f h
 have hxs5:xs.length=3:=hxs;obtain⟨y1,h1⟩:=gotA (hg 0 _ rfl) (by omega);obtain⟨y2,h2⟩:=gotA (hg 1 _ rfl) (by omega);obtain⟨y3,h3⟩:=gotA (hg 2 _ rfl) (by omega);replace h1:DataW.trod enc Tryz.prog w base spare held n 69 ((cs.drop 0).take (Tryz.prog.cellsOf 69))=some y1:=h1;replace h2:DataW.trod enc Tryz.prog w base spare held n 46 ((cs.drop 33).take (Tryz.prog.cellsOf 46))=some y2:=h2;replace h3:DataW.trod enc Tryz.prog w base spare held n 77 ((cs.drop 65).take (Tryz.prog.cellsOf 77))=some y3:=h3;rw[cells_point]at h1;rw[cells_id]at h2;rw[cells_coinh]at h3;obtain⟨p,e1,hp⟩:=trod_ptk (by rw[List.length_take,List.length_drop,hl0];rfl) h1;obtain⟨d2,e2,l2⟩:=trod_bytes Tryz.underlying46 Tryz.underlying5 cells_u8 cells_id h2;obtain⟨c,e3,hc⟩:=trod_coinv (by rw[List.length_take,List.length_drop,hl0];rfl) h3;refine⟨(p,d2,c),?_,hp,l2,hc⟩;have a4:cs.drop 98=[]:=List.drop_of_length_le (by omega);have a3:=cutA e3 a4;have a2:=cutA e2 a3;have a1:=cutA e1 a2;rw[List.drop_zero]at a1;rw[a1];simp [heldV]
theorem open_held {v : Value} {d : DataW H} {ps : List MemPlace} (hval : Value.okWide Tryz.prog w r b0 22 v) (h : DataW.Trod enc Tryz.prog w base spare held 22 v d ps) :
  ∃A n c,∃l:List HeldV,v=.slice A n c∧HeldsAt w A n l∧n≤9223372036854775807:=by
 obtain⟨A,n,c,l,h1,h2,h3,h4,h5,h6,_⟩:=open_list heldV HeldOK Tryz.underlying22 cells_held (show 0 < 98 by omega) (fun fuel cs y hl h=>trod_held hl h) hval h;exact⟨A,n,c,l,h1,⟨h2,h5,h6⟩,by unfold maxLen at h4;omega⟩
end
end Go.Proofs.YtnnjjbkdjkjnpaaGreatDoor
namespace Go.Proofs.YtnnjjbkdjkjnpaaGreatDoor
open Go.RowKit
open Go.WideMaps (KeyLaw)
section
variable {P:Program}
theorem kl_int{t:TypeId}{k:IntKind}(ht:P.underlying t=some (.int k))(d:Nat)(z:Int)(h:(Lit.int k z).wf=true):∃l,P.keyLits (d+1) t [.int k z]=some l:=by
 unfold Program.keyLits;rw[ht];refine⟨[.int k z],?_⟩;show(if k=k∧(Lit.int k z).wf=true then some [Lit.int k z] else none)=_
 rw[if_pos ⟨rfl,h⟩]
theorem mapM_ex{α β:Type}(f:α→Option β):∀(l:List α),(∀x∈l,∃y,f x=some y)→∃r,l.mapM f=some r
 |[],_=>⟨[],rfl⟩
 | x::l,h=>by
  obtain⟨y,hy⟩:=h x (by simp);obtain⟨r,hr⟩:=mapM_ex f l (fun z hz=>h z (by simp [hz]));exact⟨y::r,by rw[List.mapM_cons,hy,hr];rfl⟩
theorem kl_struct {t : TypeId} {fs : Array Field} (ht : P.underlying t = some (.struct fs)) (d : Nat) (cs : List Value) (hl : cs.length = P.cellsOf t) (hn : fs.all (·.name != "_") = true)
  (h:∀f∈fs.toList,∃l,P.keyLits d f.type ((cs.drop f.offset).take (P.cellsOf f.type))=some l):∃l,P.keyLits (d+1) t cs=some l:=by
 unfold Program.keyLits;rw[ht];obtain⟨r,hr⟩:=mapM_ex _ fs.toList h;simp only;rw[if_pos ⟨hl,hn⟩,hr];exact⟨_,rfl⟩
theorem kl_bytes{t e:TypeId}{n:Nat}(ht:P.underlying t=some (.array n e))(he:P.underlying e=some (.int .u8))(hce:P.cellsOf e=1)(hct:P.cellsOf t=n)(d:Nat)(ds:List UInt8)(h:ds.length=n):∃l,P.keyLits (d+2) t (ds.map B)=some l:=by
 unfold Program.keyLits;rw[ht];simp only [List.length_map,h,hct,if_true,hce,Nat.mul_one]
 obtain⟨r,hr⟩:=mapM_ex (fun i=>P.keyLits (d+1) e (List.take 1 (List.drop i (ds.map B)))) (List.range n) (fun i hi=>by
  have hi:i < n:=by simpa using hi
  have e1:List.take 1 (List.drop i (ds.map B))=[B (ds[i]?.getD 0)]:=by
   rw[List.take_one,List.head?_drop,List.getElem?_map,List.getElem?_eq_getElem (by omega)];rfl
  rw[e1]
  exact kl_int he d (b8 (ds[i]?.getD 0)) (by have:=b8_range (ds[i]?.getD 0);simp [Lit.wf,IntKind.min,IntKind.max,IntKind.signed,IntKind.bits];omega))
 rw[hr];exact⟨_,rfl⟩
theorem keyOf_wide {t : TypeId} (hw : (match P.underlying t with | some (.array _ _) | some (.struct _) => true | _ => false) = true) (hk : P.keyType t = true) (cs : List Value) (hf : (Value.agg cs.toArray).formed P t = true) :
  keyOf P t (.agg cs.toArray)=(P.keyLits (P.types.size+1) t cs).map fun ls=>.string (keyBytes ls):=by
 unfold keyOf
 revert hw
 cases hu:P.underlying t with
 | none=>intro h;cases h
 | some d =>
  cases d
  case array=>intro _;simp [hk,hf,Value.cells]
  case struct=>intro _;simp [hk,hf,Value.cells]
  all_goals (intro h;cases h)
theorem formed_wide{t:TypeId}(hw:(match P.underlying t with|some (.array _ _)|some (.struct _)=>true|_=>false)=true)(cs:List Value)(hl:cs.length=P.cellsOf t):(Value.agg cs.toArray).formed P t=true:=by
 unfold Value.formed
 revert hw
 cases hu:P.underlying t with
 | none=>simp
 | some d=>cases d <;> simp [hl]
theorem keyOf_ex {t : TypeId} (hw : (match P.underlying t with | some (.array _ _) | some (.struct _) => true | _ => false) = true) (hk : P.keyType t = true) (cs : List Value) (hl : cs.length = P.cellsOf t)
  (h:∃l,P.keyLits (P.types.size+1) t cs=some l):∃l,keyOf P t (.agg cs.toArray)=some l:=by
 obtain⟨l,hl2⟩:=h;rw[keyOf_wide hw hk cs (formed_wide hw cs hl),hl2];exact⟨_,rfl⟩
theorem eql_deep {t : TypeId} (K : KeyLaw P t) {m : Nat} (hm : m ≤ 10000) (hd : P.keyTypeAt m t = true) (hw : (match P.underlying t with | some (.array _ _) | some (.struct _) => true | _ => false) = true) (hk : P.keyType t = true)
  (x y:List Value) (hx:x.length=P.cellsOf t) (hy:y.length=P.cellsOf t) (kx:∃l,P.keyLits (P.types.size+1) t x=some l) (ky:∃l,P.keyLits (P.types.size+1) t y=some l) :
  ∃r:Bool,(r=true↔x=y)∧∀w,(Op.equalIn 10000 t (.agg x.toArray) (.agg y.toArray)).run P w=.ok r w:=by
 obtain⟨lx,hlx⟩:=keyOf_ex hw hk x hx kx;obtain⟨ly,hly⟩:=keyOf_ex hw hk y hy ky;have hf:=fun cs hl=>formed_wide (P:=P) (t:=t) hw cs hl
 obtain⟨l1,e1⟩:=kx;obtain⟨l2,e2⟩:=ky
 have hall:∀w,∃r:Bool,(Op.equalIn 10000 t (.agg x.toArray) (.agg y.toArray)).run P w=.ok r w∧(r=true↔l1=l2):=by
  intro w;have:=run_equalIn_deep (P:=P) (10000 - m) m t hd w _ _ (.agg x.toArray) (.agg y.toArray) l1 l2 (hf x hx) (hf y hy) (by simpa [Value.cells] using e1) (by simpa [Value.cells] using e2)
  rwa [show 10000 - m+m=10000 by omega]at this
 have hxy:l1=l2↔x=y:=by
  constructor
  ·intro h;subst h
   have k1:keyOf P t (.agg x.toArray)=keyOf P t (.agg y.toArray):=by
    rw[keyOf_wide hw hk x (hf x hx),keyOf_wide hw hk y (hf y hy),e1,e2]
   have:=K.inj hlx (k1▸hlx);simpa using this
  ·intro h;subst h;rw[e1]at e2;cases e2;rfl
 by_cases h:x=y
 ·refine⟨true,by simp [h],fun w=>?_⟩;obtain⟨r,h1,h2⟩:=hall w;have:r=true:=h2.2 (hxy.2 h);rw[h1,this]
 ·refine⟨false,by simp [h],fun w=>?_⟩;obtain⟨r,h1,h2⟩:=hall w
  have:r=false:=by
   cases r with
   | false=>rfl
   | true=>exact absurd (hxy.1 (h2.1 rfl)) h
  rw[h1,this]
end
end Go.Proofs.YtnnjjbkdjkjnpaaGreatDoor
